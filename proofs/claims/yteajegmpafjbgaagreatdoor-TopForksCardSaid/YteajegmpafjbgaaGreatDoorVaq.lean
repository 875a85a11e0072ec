/- A part of the proof of TopForks. -/
import Derived.Test.YteajegmpafjbgaaGreatDoorVao
import Derived.Test.YteajegmpafjbgaaGreatDoorVap
set_option linter.all false
set_option maxRecDepth 1000000
set_option maxHeartbeats 80000000
noncomputable section
open Go Go.RowKit
namespace Go.Vx
def Zh(f:Nat):Bool:=Nat.beq f 88||Nat.beq f 399||Nat.beq f 282||Nat.beq f 71
def oC(f:Nat):Option bF:=bif Zh f then none else Tab.fns f
def mmF(ext:eF):eF:=λf=>bif Nat.beq f 88 then some ⟨atS⟩else bif Nat.beq f 399 then some ⟨Ot⟩else bif Nat.beq f 282 then some ⟨anO⟩else bif Nat.beq f 71 then ext f else none
def TY(l0:List V)(D:Nat)(M:Int)(ext:eF):eF:=λf=>bif Nat.beq f 88 then some ⟨awn l0 D⟩else bif Nat.beq f 399 then some ⟨Wh l0.length M⟩else bif Nat.beq f 282 then some ⟨al9 l0⟩else bif Nat.beq f 71 then ext f else none
def atJ:aam Tab.wt=true:=by decide +kernel
def IQ{f:Nat}{v:bF}(h:Tab.fns f=some v):qX v.body=true:=by
 rcases Tab.aua h with h|⟨h,h1,_⟩
 .exact KU atJ h
 .by_cases a:f<130
  .exact zL pu0 (eX _) (by omega) h1
  .by_cases b:f<250
   .exact zL pu1 (by omega) (by omega) h1
   .by_cases c:f<380
    .exact zL pu2 (by omega) (by omega) h1
    .exact zL pu3 (by omega) (by omega) h1
def awG{ext:eF}(he:qN Go.Proofs.Tryz.prog vZ ext):qN Go.Proofs.Tryz.prog vZ (mmF ext):=λf args v h=>by
 unfold ay mmF at h;cases h1:Nat.beq f 88 with
 |true=>rw[h1]at h;rw[aP h1];exact ajJ h
 |false =>
  rw[h1]at h;cases h2:Nat.beq f 399 with
  |true=>rw[h2]at h;rw[aP h2];exact agh h
  |false =>
   rw[h2]at h;cases h3:Nat.beq f 282 with
   |true=>rw[h3]at h;rw[aP h3];exact asz h
   |false =>
    rw[h3]at h;cases h4:Nat.beq f 71 with
    |true=>rw[h4]at h;exact he f args v h
    |false=>rw[h4]at h;cases h
def asB{ext:eF}(he:qN Go.Proofs.Tryz.prog vZ ext):∀n,Rz Go.Proofs.Tryz.prog vZ (runM (mmF ext) oC n):=by
 have hq:∀f vf,oC f=some vf->Tab.fns f=some vf:=λf vf h=>by
  unfold oC at h;cases hc:Zh f with
  |true=>rw[hc]at h;cases h
  |false=>rw[hc]at h;exact h
 exact Jv Tab.mixes (awG he) (λf vf hf=>(Tab.Tq f vf (hq f vf hf)).1) (λf vf hf=>(Tab.Tq f vf (hq f vf hf)).2) (λq hq=>by
  have:q=155:=by simpa[vZ]using hq
  subst this;exact NK)
def arG(T:Th){l0:List V}{D:Nat}{M:Int}{ext abW:eF}(hT:Tie T l0 D)(hM:wX (Int.ofNat (T.ns.length+50)) M=true)
  (hx:∀f args v,ay abW f args=some v->ay ext f (subs T.ro args)=some (sub T.ro v)):yD T.ro (TY l0 D M abW) (mmF ext) oC where
 known f args v h:=by
  have hx2:=hx f args v;unfold ay TY at h;unfold ay mmF;cases h1:Nat.beq f 88 with
  |true=>rw[h1]at h;exact al4 hT h
  |false =>
   rw[h1]at h;cases h2:Nat.beq f 399 with
   |true=>rw[h2]at h;exact ZB T hT.len hM h
   |false =>
    rw[h2]at h;cases h3:Nat.beq f 282 with
    |true=>rw[h3]at h;exact ahI hT h
    |false =>
     rw[h3]at h;cases h4:Nat.beq f 71 with
     |true=>rw[h4]at h;exact hx2 h
     |false=>rw[h4]at h;cases h
 bare f vf h:=by
  unfold oC at h;cases hc:Zh f with
  |true=>rw[hc]at h;cases h
  |false =>
   rw[hc]at h;simp only[Zh,Bool.or_eq_false_iff]at hc;obtain⟨⟨⟨h1,h2⟩,h3⟩,h4⟩:=hc;refine⟨λa=>?_,lV (IQ h)⟩;unfold ay mmF;rw[h1,h2,h3,h4];rfl
section
def EvA(mm:eF)(fns:Nat->Option bF)(f:Nat)(a:List V)(v:V):Prop:=aW a=true/\aO v=true/\∃N,∀m,N<=m->∃h,runM mm fns m (.call f a) [] [] emp=.val v h
variable {mm mm':eF}{fns:Nat->Option bF}{f n:Nat}{a:List V}{v u:V}{ρ:V->V}
theorem EvA.uniq(h1:EvA mm fns f a v)(h2:EvA mm fns f a u):v=u:=by
 obtain⟨_,_,N1,k1⟩:=h1;obtain⟨_,_,N2,k2⟩:=h2;obtain⟨g1,e1⟩:=k1 (N1+N2) (by omega);obtain⟨g2,e2⟩:=k2 (N1+N2) (by omega);rw[e1]at e2;cases e2;rfl
open Classical in
def lim(mm:eF)(fns:Nat->Option bF)(f:Nat)(a:List V):Option V:=if h:∃v,EvA mm fns f a v then some h.choose else none
theorem AO(h:EvA mm fns f a v):lim mm fns f a=some v:=by
 have hx:∃v,EvA mm fns f a v:=⟨v,h⟩;unfold lim;rw[dif_pos hx];exact congrArg some (hx.choose_spec.uniq h)
theorem tH(h:lim mm fns f a=some v):EvA mm fns f a v:=by
 unfold lim at h;by_cases hx:∃v,EvA mm fns f a v
 .rw[dif_pos hx]at h;cases h;exact hx.choose_spec
 .rw[dif_neg hx]at h;cases h
theorem EvA.ans(hs:∀n,Rz Go.Proofs.Tryz.prog vZ (runM mm fns n))(h:EvA mm fns f a v):Ans f a v:=by
 obtain⟨h1,h2,N,k⟩:=h;obtain⟨g,e⟩:=k N (aJ _);exact XW hs e h1 h2
theorem evX(he:nY (nZ mm fns n (.call f a) zW bx0 emp) v=true)(ha:aW a=true)(hv:aO v=true):EvA mm fns f a v:=by
 refine⟨ha,hv,?_⟩;cases ho:nZ mm fns n (.call f a) zW bx0 emp with
 |val w h1 =>
  rw[ho]at he;have he:lZ w v=true:=he;have h2:wL [w] [v]=true:=by
   change(bif lZ w v then true else false)=true;rw[he];rfl
  have:=(List.cons.inj (oU _ _ h2)).1;subst this;obtain⟨N,hN⟩:=(E5 (mm:=mm) (fns:=fns) n).call ho [] [];exact⟨N,λm hm=>⟨h1,hN m hm⟩⟩
 |_=>rw[ho]at he;cases he
theorem evS [Good ρ](hm:yD ρ mm mm' fns)(he:nY (nZ mm fns n (.call f a) zW bx0 emp) v=true)(ha:aW (subs ρ a)=true)(hv:aO (sub ρ v)=true):EvA mm' fns f (subs ρ a) (sub ρ v):=by
 refine⟨ha,hv,?_⟩;cases ho:nZ mm fns n (.call f a) zW bx0 emp with
 |val w h1 =>
  rw[ho]at he;have he:lZ w v=true:=he;have h2:wL [w] [v]=true:=by
   change(bif lZ w v then true else false)=true;rw[he];rfl
  have:=(List.cons.inj (oU _ _ h2)).1;subst this;obtain⟨N,hN⟩:=(E5 (mm:=mm) (fns:=fns) n).call ho [] [];refine⟨N,λm hm2=>⟨dG ρ h1,?_⟩⟩;have h1:=(Xi hm m).go (.call f a) [] [] emp;rw[hN m hm2]at h1;have h3:=h1 (by intro h;cases h);simp only[Ii,qA,subs]at h3;exact h3
 |_=>rw[ho]at he;cases he
def exL:eF:=λf=>bif Nat.beq f 71 then some ⟨lim GH Tab.fns f⟩else none
theorem Vr:qN Go.Proofs.Tryz.prog vZ exL:=λf a v h=>by
 unfold ay exL at h;cases hb:Nat.beq f 71 with
 |false=>rw[hb]at h;cases h
 |true=>rw[hb]at h;exact(tH (show lim GH Tab.fns f a=some v from h)).ans (Tab.pY Jk)
abbrev EvT(f:Nat)(a:List V)(v:V):Prop:=EvA GH Tab.fns f a v
abbrev mmB:eF:=mmF exL
abbrev EvB(f:Nat)(a:List V)(v:V):Prop:=EvA mmB oC f a v
theorem evK(T:Th){l0:List V}{D:Nat}{M:Int}{abW:eF}(hT:Tie T l0 D)(hM:wX (Int.ofNat (T.ns.length+50)) M=true)
  (hx:∀f args v,ay abW f args=some v->ay exL f (subs T.ro args)=some (sub T.ro v))
  (hr:nY (nZ (TY l0 D M abW) oC n (.call f a) zW bx0 emp) v=true) (ha:aW (subs T.ro a)=true) (hv:aO (sub T.ro v)=true):EvB f (subs T.ro a) (sub T.ro v) :=
 evS (arG T hT hM hx) hr ha hv
end
def sy(p:V):V:=.iface 1000000 p
structure Ks where
 x:List V
 l:List V
 m:Nat
def thr(u:Nat):V:=.agg [sy (.tuple [jn u,jn 0]),sy (.tuple [jn u,jn 1]),sy (.tuple [jn u,jn 2]),sy (.tuple [jn u,jn 3]),sy (.tuple [jn u,jn 4]),sy (.tuple [jn u,jn 5]),sy (.tuple [jn u,jn 6]),sy (.tuple [jn u,jn 7]),sy (.tuple [jn u,jn 8]),sy (.tuple [jn u,jn 9]),sy (.tuple [jn u,jn 10])]
def D6(t:Nat)(x:List V):Nat->Nat->List V
 |_,0=>[]
 |u,n+1=>(bif Nat.beq u t then .agg x else thr u)::D6 t x (u+1) n
structure Cst where
 ops:V
 defs:V
 most:Int
 deep:Int
 D:Nat
def XM:V:=sy (.tuple [.bool false])
def Si:Nat->Nat->List V
 |_,0=>[]
 |i,n+1=>sy (.tuple [jn i,jn 0,jn 0])::Si (i+1) n
def otN(n:Nat):V:=bif Nat.beq n 0 then .aj else .list (Si 0 n) false
def ct0:V:=sy (.tuple [])
def zS(C:Cst)(hp:V)(c:V)(ts:List V)(o:V):V:=.agg [C.ops,C.defs,hp,.int .i64 C.most,c,jn 0,.aj,.list ts false,o]
def JK(C:Cst)(l ts:List V)(o:V):V:=zS C (sy (.iE l)) ct0 ts o
def au6:Nat->V->List Nat->List Nat
 |0,_,acc=>acc
 |f+1,v,acc=>match v with
  |.iface t p=>bif Nat.beq t 1000000 then(match p with|.int _ (.ofNat j)=>j::acc|_=>acc)else acc
  |.list xs _=>ajw f xs acc
  |.agg xs=>ajw f xs acc
  |_=>acc
where ajw:Nat->List V->List Nat->List Nat
 |0,_,acc=>acc
 |_+1,[],acc=>acc
 |f+1,v::vs,acc=>au6 f v (ajw f vs acc)
def mark:Nat->List V->List Nat->List Nat->List Nat
 |0,_,_,seen=>seen
 |_+1,_,[],seen=>seen
 |f+1,l,j::js,seen=>bif uz j seen then mark f l js seen else mark f l (match ng j l with|some v=>au6 60 v js|none=>js) (j::seen)
def keep:Nat->List Nat->List V->List V
 |_,_,[]=>[]
 |i,seen,v::l=>(bif uz i seen then v else .undef)::keep (i+1) seen l
def forget(D:Nat)(x:List V)(l:List V):List V:=keep 0 (mark 2000 l (List.range D++au6 60 (.agg x) []) []) l
def aa5(v:V):V×V:=match v with|.tuple l=>(match l with|[a,b]=>(a,b)|_=>(.undef,.undef))|_=>(.undef,.undef)
def Nj(v:V):List V:=match v with|.list l _=>l|_=>[]
def ah4(v:V):Nat:=match v with|.int _ n=>(match n with|.ofNat j=>j|_=>0)|_=>0
def cellsD(v:V):List V:=match v with|.agg l=>l|_=>[]
def hpL(v:V):List V:=match v with|.iface _ p=>(match amW p with|some l=>l|none=>[])|_=>[]
section
mutual
def yA(L:Nat):V->Bool
 |.bool _=>true
 |.int _ _=>true
 |.str _=>true
 |.aj=>true
 |.list xs _=>wU L xs
 |.agg xs=>wU L xs
 |.iface t p=>Nat.beq t 1000000&&(match p with|.int k n=>eqK k .i64&&(match n with|.ofNat j=>Nat.blt j L|_=>false)|_=>false)
 |_=>false
def wU(L:Nat):List V->Bool
 |[]=>true
 |v::vs=>yA L v&&wU L vs
end
theorem Y5{L t:Nat}{p:V}(h:yA L (.iface t p)=true):t=1000000/\∃j,p=.int .i64 (.ofNat j)/\j<L:=by
 simp only[yA,ah]at h;refine⟨aP h.1,?_⟩;cases p<;>first|(cases h.2;done)|skip
 rename_i k n;have h2:=h.2;simp only[ah]at h2;cases n with
 |negSucc n=>cases h2.2
 |ofNat j =>
  rw[l7]at h2;simp only[decide_eq_true_eq]at h2;obtain⟨rfl,h3⟩:=h2;exact⟨j,rfl,by simpa[Nat.blt,Nat.succ_le_iff]using h3⟩
mutual
theorem Oa{L:Nat}{r1 r2:V->V}(hr:∀j,j<L->r1 (.int .i64 (.ofNat j))=r2 (.int .i64 (.ofNat j))):∀(v:V),yA L v=true->sub r1 v=sub r2 v
 |.bool _,_=>by simp only[sub]
 |.int _ _,_=>by simp only[sub]
 |.str _,_=>by simp only[sub]
 |.aj,_=>by simp only[sub]
 |.list xs e,h=>by simp only[sub];rw[JE hr xs (by simpa[yA]using h)]
 |.agg xs,h=>by simp only[sub];rw[JE hr xs (by simpa[yA]using h)]
 |.iface t p,h=>by
  obtain⟨rfl,j,rfl,hj⟩:=Y5 h;rw[nD,nD,hr j hj]
 |.undef,h=>by simp[yA]at h
 |.nilPtr,h=>by simp[yA]at h
 |.aY _ _,h=>by simp[yA]at h
 |.bg _ _,h=>by simp[yA]at h
 |.iE _,h=>by simp[yA]at h
 |.hsl _ _ _ _ _,h=>by simp[yA]at h
 |.fA,h=>by simp[yA]at h
 |.map _,h=>by simp[yA]at h
 |.nilFunc,h=>by simp[yA]at h
 |.func _ _ _,h=>by simp[yA]at h
 |.nilIface,h=>by simp[yA]at h
 |.tuple _,h=>by simp[yA]at h
theorem JE{L:Nat}{r1 r2:V->V}(hr:∀j,j<L->r1 (.int .i64 (.ofNat j))=r2 (.int .i64 (.ofNat j))):∀(l:List V),wU L l=true->subs r1 l=subs r2 l
 |[],_=>by simp only[subs]
 |v::l,h=>by
  simp only[wU,ah]at h;simp only[subs];rw[Oa hr v h.1,JE hr l h.2]
end
theorem kZ:∀{l:List V} {i:Nat} {v:V},l[i]?=some v->aA l i=v
 |[],i,v,h=>by simp at h
 |x::l,0,v,h=>by simp at h;subst h;rfl
 |x::l,i+1,v,h=>by rw[iL];exact kZ (by simpa using h)
def rA(A:Nat->Nat)(p:V):V:=match p with
 |.int _ n=>(match n with|.ofNat j=>.int .i64 (.ofNat (A j))|_=>.int .i64 (.ofNat 0))
 |_=>.int .i64 (.ofNat 0)
def pf(v:V):V:=bif fM v&&aO v then v else .int .i64 (.ofNat 0)
theorem ES(v:V):fM (pf v)=true:=by
 unfold pf;cases h:fM v&&aO v with
 |true=>simp only[ah]at h;exact h.1
 |false=>rfl
theorem Gl(v:V):aO (pf v)=true:=by
 unfold pf;cases h:fM v&&aO v with
 |true=>simp only[ah]at h;exact h.2
 |false=>rfl
theorem Ul{v:V}(h:fM v=true)(h2:aO v=true):pf v=v:=by simp only[pf,h,h2,aU,cond_true]
def Np(xs:List V)(w p:V)(ps:List V):V:=match ps with
 |[a]=>pf w
 |[a,b]=>(match jw a with
  |some u=>(match jw b with
   |some i=>pf (aA (cellsD (aA xs u)) i)
   |none=>.int .i64 (.ofNat 0))
  |none=>.int .i64 (.ofNat 0))
 |[a,b,c]=>(match jw a with
  |some i=>pf (aA (Nj w) i)
  |none=>.int .i64 (.ofNat 0))
 |_=>pf p
theorem Qy(xs:List V)(w p:V)(ps:List V):fM (Np xs w p ps)=true/\aO (Np xs w p ps)=true:=by
 unfold Np
 split
 .exact⟨ES _,Gl _⟩
 .split
  .split
   .exact⟨ES _,Gl _⟩
   .exact⟨rfl,rfl⟩
  .exact⟨rfl,rfl⟩
 .split
  .exact⟨ES _,Gl _⟩
  .exact⟨rfl,rfl⟩
 .exact⟨ES _,Gl _⟩
def ThC(X:V):Prop:=∃cs,X=.agg cs/\cs.length=11/\∀c∈cs,fM c=true/\aO c=true
structure Vw (D:Nat)(A:Nat->Nat)(ow:Nat->Bool)(l ns:List V):Prop where
 zero:∀d,d<D->A d=d\/((∀j v,l[j]?=some v->uX v=false->ow j=true->A j≠d)/\∃n nm e,ns[d]?=some (nd 6 n nm (.list [.int .i64 (.ofNat (A d))] e)))
 pos:D<=l.length
 inj:∀i j v w,l[i]?=some v->uX v=false->ow i=true->l[j]?=some w->uX w=false->ow j=true->A i=A j->i=j
 low:∀j,j<l.length->A j<ns.length
 node:∀j v,l[j]?=some v->uX v=false->BG v=true/\yA l.length v=true/\((ow j=true/\ns[A j]?=some (sub (rA A) v))\/(ow j=false/\∃n nm b e,v=nd 6 n nm (.list [ad b] e)/\A j=A b))
def Hg(A:Nat->Nat)(L N:Nat)(j:Nat):Nat:=if j<L then A j else N+(j-L)
def sgL(A:Nat->Nat)(ow:Nat->Bool)(l:List V):List (Nat×Bool):=(List.range l.length).map λj=>(A j,ow j&&!(uX (aA l j)))
section
variable {D:Nat}{A:Nat->Nat}{ow:Nat->Bool}{l ns:List V}(hv:Vw D A ow l ns)(hok:wB ns=true)(hroom:ns.length+60<=100000)(e:Bool)(xs:List V)(w p:V)
include hv hok hroom
def jI:Th where
 σ:=sgL A ow l
 ns:=ns
 e:=e
 oth:=Np xs w p
 nodup:=by
  unfold sgL;rw[List.pairwise_map];refine List.Pairwise.imp_of_mem ?_ (List.nodup_iff_pairwise_ne.1 (List.nodup_range (n:=l.length)));intro a b ha hb hne ⟨h1,h2,h3⟩;have ha:=dh.1 ha;have hb:=dh.1 hb;simp only[ah,fQ]at h1 h2;have g1:=bV ha;have g2:=bV hb;rw[kZ g1]at h1;rw[kZ g2]at h2;exact hne (hv.inj a b _ _ g1 h1.2 h1.1 g2 h2.2 h2.1 h3)
 low s hs:=by
  obtain⟨j,hj,rfl⟩:=kC.1 hs;exact hv.low j (dh.1 hj)
 ok:=hok
 room:=hroom
 plain ps:=(Qy xs w p ps).1
 flat ps:=(Qy xs w p ps).2
end
variable {D:Nat}{A:Nat->Nat}{ow:Nat->Bool}{l ns:List V}{hv:Vw D A ow l ns}{hok:wB ns=true}{hroom:ns.length+60<=100000}{e:Bool}{xs:List V}{w p:V}
theorem Xk{j:Nat}(h:j<l.length):(sgL A ow l)[j]?=some (A j,ow j&&!(uX (aA l j))):=by
 unfold sgL;rw[iW,List.getElem?_range h];rfl
theorem Xl{j:Nat}(h:l.length<=j):(sgL A ow l)[j]?=none:=gU (by simp[sgL];omega)
theorem adM:(sgL A ow l).length=l.length:=by simp[sgL]
theorem KJ(j:Nat):(jI hv hok hroom e xs w p).zV j=Hg A l.length ns.length j:=by
 unfold Th.zV jI Hg;dsimp only;by_cases hj:j<l.length
 .rw[Xk hj];simp[hj]
 .rw[Xl (by omega),adM];simp[hj]
theorem Wx:(jI hv hok hroom e xs w p).σ.length=l.length:=adM
theorem Wy{j:Nat}(h:∀v,l[j]?=some v->uX v=false/\ow j=true):(jI hv hok hroom e xs w p).own j:=by
 intro s hs;have hs:(sgL A ow l)[j]?=some s:=hs;rcases dP j l.length with h1|h1
 .rw[Xk h1]at hs;cases hs;have g1:=bV h1;obtain⟨q1,q2⟩:=h _ g1;simp only[kZ g1,q1,q2,Bool.not_false,aU]
 .rw[Xl h1]at hs;cases hs
theorem adq{l:List V}{j:Nat}{v:V}(h:ownB l j=true)(hg:l[j]?=some v):∃k n nm ks,v=nd k n nm ks/\sK k (Int.ofNat 6)=false:=by
 obtain⟨r,hs⟩:=lD hg;unfold ownB at h;rw[hs]at h;dsimp only at h;cases hn:gV v with
 |none=>rw[hn]at h;cases h
 |some p =>
  obtain⟨k,n,nm,ks⟩:=p;rw[hn]at h;simp only[fQ]at h;exact⟨k,n,nm,ks,jV hn,h⟩
theorem amr:Tie (jI hv hok hroom e xs w p) l D where
 len:=Wx
 own j h:=Wy λv hg=>by
  obtain⟨k,n,nm,ks,rfl,h6⟩:=adq h hg;refine⟨rfl,?_⟩;rcases(hv.node j _ hg rfl).2.2 with⟨h1,_⟩|⟨_,n2,nm2,b,e2,h1,_⟩
  .exact h1
  .unfold nd at h1;simp only[V.agg.injEq,gu,V.int.injEq]at h1;obtain⟨⟨_,hk⟩,_⟩:=h1;subst hk;exact absurd h6 (by decide)
 coll j n nm b e2 hg:=by
  rcases(hv.node j _ hg rfl).2.2 with⟨h1,_⟩|⟨_,n2,nm2,b2,e3,h1,h2⟩
  .exact .inl (Wy λv hv2=>by rw[hg]at hv2;cases hv2;exact⟨rfl,h1⟩)
  .unfold nd at h1;simp only[V.agg.injEq,gu,V.int.injEq,V.list.injEq,ad,V.iface.injEq,true_and,and_true,Int.ofNat.injEq]at h1;obtain⟨_,_,hb,_⟩:=h1;subst hb;refine .inr ?_;have hj:j<l.length:=by
    rcases dP j l.length with h1|h1
    .exact h1
    .rw[gU h1]at hg;cases hg
   have hb:b<l.length:=by
    have:=(hv.node j _ hg rfl).2.1;simp only[nd,yA,wU,ad,cZ,Bool.true_and,ah]at this;simpa[Nat.blt,Nat.succ_le_iff]using this.2.2
   rw[KJ,KJ];unfold Hg;rw[if_pos hj,if_pos hb,h2]
 zero d hd:=by
  have hdl:d<l.length:=by have:=hv.pos;omega
  rw[KJ];unfold Hg;rw[if_pos hdl];rcases hv.zero d hd with h|⟨h1,h2⟩
  .exact .inl h
  .refine .inr ⟨λhm=>?_,h2⟩;obtain⟨j,hj,hq⟩:=kC.1 (show(d,true)∈sgL A ow l from hm);have hj:=dh.1 hj;simp only[Prod.mk.injEq,ah,fQ]at hq;have g1:=bV hj;rw[kZ g1]at hq;exact h1 j _ g1 hq.2.2 hq.2.1 hq.1
theorem azS:(jI hv hok hroom e xs w p).ra=rA (Hg A l.length ns.length):=by
 funext v
 cases v<;>first|rfl|skip
 rename_i k n;cases n with
 |ofNat j=>show V.int .i64 (.ofNat ((jI hv hok hroom e xs w p).zV j))=V.int .i64 (.ofNat (Hg A l.length ns.length j));rw[KJ]
 |negSucc n=>rfl
theorem ZQ{L:Nat}{v:V}(h:yA L v=true):sub (jI hv hok hroom e xs w p).ro v=sub (rA (Hg A l.length ns.length)) v:=by
 refine Oa (L:=L) (λj _=>?_) v h;show(.int .i64 (.ofNat ((jI hv hok hroom e xs w p).zV j)):V)=.int .i64 (.ofNat (Hg A l.length ns.length j));rw[KJ]
theorem wF{j:Nat}(h:j<l.length):Hg A l.length ns.length j=A j:=by simp[Hg,h]
theorem azE{v:V}(h:yA l.length v=true):sub (rA (Hg A l.length ns.length)) v=sub (rA A) v:=by
 refine Oa (L:=l.length) (λj hj=>?_) v h;show(.int .i64 (.ofNat (Hg A l.length ns.length j)):V)=.int .i64 (.ofNat (A j));rw[wF hj]
theorem PG{v:V}(h:BG v=true):(jI hv hok hroom e xs w p).img v=sub (rA (Hg A l.length ns.length)) v:=by
 unfold Th.img;rw[h,azS];rfl
theorem anP{ns:List V}{s:Nat}{x:V}(h:ns[s]?=some x):ns.set s x=ns:=by
 apply List.ext_getElem?;intro i;rw[List.getElem?_set]
 split
 .rename_i hi;subst hi
  split
  .exact h.symm
  .rename_i hl;rw[gU (by omega)]
 .rfl
theorem ajs:(jI hv hok hroom e xs w p).G l=ns:=by
 have key:∀(T:Th) (σ:List (Nat×Bool)) (l2 nU:List V),(∀(j:Nat) (v:V) (s:Nat),l2[j]?=some v->uX v=false->σ[j]?=some (s,true)->nU[s]?=some (T.img v))->T.wu σ l2 nU=nU:=by
  intro T σ
  induction σ with
  |nil=>intro l2 nU _;simp[Th.wu]
  |cons s σ ih =>
   intro l2 nU hh;cases l2 with
   |nil=>simp[Th.wu]
   |cons v l2 =>
    simp only[Th.wu];have h1:(bif uX v||!s.2 then nU else nU.set s.1 (T.img v))=nU:=by
     cases hu:uX v with
     |true=>rfl
     |false =>
      obtain⟨s1,s2⟩:=s;cases s2 with
      |false=>rfl
      |true=>exact anP (hh 0 v s1 rfl hu rfl)
    rw[h1];exact ih l2 nU λj v s h1 h2 h3=>hh (j+1) v s (by simpa using h1) h2 (by simpa using h3)
 unfold Th.G;rw[key]
 .rw[Wx,List.drop_length];simp[jI]
 .intro j v s h1 h2 h3;have hj:j<l.length:=by
   rcases dP j l.length with h|h
   .exact h
   .rw[gU h]at h1;cases h1
  have h3:(sgL A ow l)[j]?=some (s,true):=h3;rw[Xk hj]at h3;simp only[aG,Prod.mk.injEq,ah]at h3;obtain⟨rfl,ho,_⟩:=h3;obtain⟨k1,k2,k3⟩:=hv.node j v h1 h2;rcases k3 with⟨_,k3⟩|⟨k3,_⟩
  .show ns[A j]?=_;rw[k3,PG k1,azE k2]
  .rw[ho]at k3;cases k3
end
section
mutual
theorem Et{ρ:V->V}[Good ρ]:∀(v:V),aO v=true->aO (sub ρ v)=true
 |.undef,_=>by simp only[sub,aO]
 |.bool _,_=>by simp only[sub,aO]
 |.int _ _,_=>by simp only[sub,aO]
 |.str _,_=>by simp only[sub,aO]
 |.nilPtr,_=>by simp only[sub,aO]
 |.aY _ _,_=>by simp only[sub,aO]
 |.bg _ _,h=>by simp[aO]at h
 |.iE cs,h=>by simp only[sub,aO];exact wO cs (by simpa[aO]using h)
 |.aj,_=>by simp only[sub,aO]
 |.list xs e,h=>by simp only[sub,aO];exact wO xs (by simpa[aO]using h)
 |.hsl _ _ _ _ _,h=>by simp[aO]at h
 |.fA,_=>by simp only[sub,aO]
 |.map _,h=>by simp[aO]at h
 |.nilFunc,_=>by simp only[sub,aO]
 |.func fn a b,h=>by
  cases fn with
  |func f =>
   simp only[aO,ah]at h;simp only[sub,aO,wO a h.1,wO b h.2,aU]
  |_=>simp[aO]at h
 |.nilIface,_=>by simp only[sub,aO]
 |.iface t v,h=>by
  rw[jH];cases Nat.beq t 1000000 with
  |true=>exact Good.flat v
  |false=>simp only[cond_false,aO];exact Et v (by simpa[aO]using h)
 |.agg cs,h=>by simp only[sub,aO];exact wO cs (by simpa[aO]using h)
 |.tuple cs,h=>by simp only[sub,aO];exact wO cs (by simpa[aO]using h)
theorem wO{ρ:V->V}[Good ρ]:∀(l:List V),aW l=true->aW (subs ρ l)=true
 |[],_=>by simp only[subs,aW]
 |v::l,h=>by
  simp only[aW,ah]at h;simp only[subs,aW,Et v h.1,wO l h.2,aU]
end
def RN(C:Cst):eF:=λf=>bif Nat.beq f 71 then some ⟨recall [([.agg [C.ops,C.defs]],.bool true)]⟩else none
variable {C:Cst}{t:Nat}{o p:V}
theorem jv{a b:V}(h:lZ a b=true):a=b:=Yr h
theorem atZ{ρ:V->V}(hp:nX C.ops=true)(hd:nX C.defs=true)(Kr:EvT 71 [.agg [C.ops,C.defs]] (.bool true)) :
  ∀f args v,ay (RN C) f args=some v->ay exL f (subs ρ args)=some (sub ρ v):=by
 intro f args v h;unfold ay RN at h;unfold ay exL;cases h1:Nat.beq f 71 with
 |true =>
  rw[h1]at h;have hm:=QI (show recall [([.agg [C.ops,C.defs]],.bool true)] args=some v from h);simp only[List.mem_singleton,Prod.mk.injEq]at hm;obtain⟨rfl,rfl⟩:=hm;rw[aP h1];simp only[subs,sub,nC _ hp,nC _ hd,cond_true];exact AO Kr
 |false=>rw[h1]at h;cases h
theorem asW{ρ:V->V}[Good ρ]{xs:List V}{u:Nat}{X:V}(hX:xs[u]?=some X)(hc:ThC X)(ho:∀i,ρ (.tuple [jn u,jn i])=pf (aA (cellsD (aA xs u)) i)):sub ρ (thr u)=X:=by
 obtain⟨cs,rfl,hl,hp⟩:=hc;rw[kZ hX]at ho;have hc:∀i,i<11->ρ (.tuple [jn u,jn i])=aA cs i:=by
  intro i hi;rw[ho i];have hmem:aA cs i∈cs:=by
   have h1:cs[i]?=some cs[i]:=bV (by omega);rw[kZ h1];exact ku _
  exact Ul (hp _ hmem).1 (hp _ hmem).2
 simp only[thr,sub,subs,sy,hc 0 (by omega),hc 1 (by omega),hc 2 (by omega),hc 3 (by omega),hc 4 (by omega),hc 5 (by omega),hc 6 (by omega),hc 7 (by omega),hc 8 (by omega),hc 9 (by omega),hc 10 (by omega)]
 match cs,hl with
 |[a0,a1,a2,a3,a4,a5,a6,a7,a8,a9,a10],_=>rfl
theorem JG{ρ:V->V}[Good ρ]{xs x:List V}{t:Nat}(hxs:∀X∈xs,ThC X)(ht:xs[t]?=some (.agg (subs ρ x)))(ho:∀u i,u≠t->ρ (.tuple [jn u,jn i])=pf (aA (cellsD (aA xs u)) i)) :
  ∀(n u:Nat),u+n=xs.length->subs ρ (D6 t x u n)=xs.drop u
 |0,u,h=>by rw[D6,Fa,List.drop_eq_nil_of_le (by omega)]
 |n+1,u,h=>by
  have hu:u<xs.length:=by omega
  have h1:xs[u]?=some xs[u]:=bV hu;rw[D6,xw,JG hxs ht ho n (u+1) (by omega),uM hu];congr 1;cases hb:Nat.beq u t with
  |true =>
   have:=aP hb;subst this;rw[ht]at h1;simp only[cond_true,sub];exact gZ h1
  |false =>
   simp only[cond_false];exact asW h1 (hxs _ (ku _)) λi=>ho u i (by intro he;subst he;simp at hb)
theorem Oj:∀{l:List V},(∀X∈l,ThC X)->aW l=true:=by
 intro l
 induction l with
 |nil=>intro _;rfl
 |cons X l ih =>
  intro h;have hX:aO X=true:=by
   obtain⟨cs,rfl,_,hc⟩:=h X bZ;simp only[aO];have fl2:∀(q:List V),(∀c∈q,fM c=true/\aO c=true)->aW q=true:=by
    intro q
    induction q with
    |nil=>intro _;rfl
    |cons c q ih2=>intro hq;simp only[aW,(hq c bZ).2,ih2 (λc hc2=>hq c (bW _ hc2)),aU]
   exact fl2 cs hc
  simp only[aW,hX,ih (λY hY=>h Y (bW _ hY)),aU]
theorem UW{D:Nat}{A:Nat->Nat}{ow:Nat->Bool}{l ns xs ts more:List V}{oK rK:V}{n f:Nat}
  (hp:nX C.ops=true) (hd:nX C.defs=true) (YR:aO C.ops=true) (O8:aO C.defs=true)
  (Kr:EvT 71 [.agg [C.ops,C.defs]] (.bool true))
  (hv:Vw D A ow l ns) (hok:wB ns=true) (hroom:ns.length+60<=100000) (hM:wX (Int.ofNat (ns.length+50)) C.most=true)
  (hxs:aW xs=true) (hts:subs (jI hv hok hroom false xs o p).ro ts=xs) (hcp:pf p=p)
  (hO:sub (jI hv hok hroom false xs o p).ro oK=o) (hof:aO o=true) (hmp:pJ more=true) (hmf:aW more=true)
  (hrun:nY (nZ (TY l D C.most (RN C)) oC n (.call f (JK C l ts oK::more)) zW bx0 emp) rK=true) (hfl:aO rK=true) :
  EvB f (zS C (.list ns false) p xs o::more) (sub (jI hv hok hroom false xs o p).ro rK):=by
 have hhp:sub (jI hv hok hroom false xs o p).ro (sy (.iE l))=.list ns false:=by
  rw[sy,nD];show V.list ((jI hv hok hroom false xs o p).G l) false=_;rw[ajs]
 have hc:sub (jI hv hok hroom false xs o p).ro ct0=p:=by
  rw[ct0,sy,nD];exact hcp
 have hargs:subs (jI hv hok hroom false xs o p).ro (JK C l ts oK::more)=zS C (.list ns false) p xs o::more:=by
  simp only[JK,zS,subs,sub,nC _ hp,nC _ hd,hhp,hc,hts,hO,jT _ hmp,jn]
 have avU:aW (zS C (.list ns false) p xs o::more)=true:=by
  have f1:=(zy hok).2;have f2:aO p=true:=by rw[<- hcp];exact Gl p
  simp only[aW,zS,aO,YR,O8,f1,f2,hxs,hof,hmf,jn,aU]
 have:=evK (jI hv hok hroom false xs o p) (l0:=l) (D:=D) (M:=C.most) (abW:=RN C) amr hM (atZ hp hd Kr) hrun (by rw[hargs];exact avU) (Et rK hfl);rw[hargs]at this;exact this
end
section
def qC:List V->List V->Bool
 |[],_=>true
 |v::l,l2=>match l2 with|w::l2=>(lZ v w||I7 v)&&(!(uX v)||uX w)&&qC l l2|[]=>false
def ac6(L:Nat):List V->Bool
 |[]=>true
 |v::l=>(uX v||(BG v&&yA L v))&&ac6 L l
def fewer:List V->List V->Bool
 |[],_=>true
 |v::l,l2=>match l2 with|w::l2=>(uX v||lZ v w)&&fewer l l2|[]=>false
def Yy(ev:V):Bool:=match ev with
 |.agg l=>(match l with
  |[a,b,c]=>(match jw a with
   |some k=>(match jw b with
    |some _=>(match jw c with
     |some _=>!(Nat.beq k 3)&&!(Nat.beq k 4)&&!(Nat.beq k 5)
     |none=>false)
    |none=>false)
   |none=>false)
  |_=>false)
 |_=>false
end
section
theorem uO:∀{l l2:List V},qC l l2=true->l.length<=l2.length/\∀(j:Nat) (v w:V),l[j]?=some v->l2[j]?=some w->(v=w\/I7 v=true)/\(uX v=true->uX w=true)
 |[],l2,_=>⟨by simp,λj v w h=>by simp at h⟩
 |v::l,[],h=>by simp[qC]at h
 |v::l,w::l2,h=>by
  simp only[qC,ah,gQ,fQ]at h;obtain⟨h1,h2⟩:=uO h.2;refine⟨by simpa using h1,λj=>?_⟩;cases j with
  |zero =>
   intro a b ha hb;simp at ha hb;subst ha;subst hb;refine⟨?_,λhu=>?_⟩
   .rcases h.1.1 with h3|h3
    .exact .inl (jv h3)
    .exact .inr h3
   .rcases h.1.2 with h3|h3
    .rw[hu]at h3;cases h3
    .exact h3
  |succ j=>intro a b ha hb;exact h2 j a b (by simpa using ha) (by simpa using hb)
theorem ZL{L:Nat}:∀{l:List V},ac6 L l=true->∀(j:Nat) (v:V),l[j]?=some v->uX v=false->BG v=true/\yA L v=true
 |[],_,j,v,h,_=>by simp at h
 |w::l,h,j,v,hj,hu=>by
  simp only[ac6,ah,gQ]at h;cases j with
  |zero =>
   simp at hj;subst hj;rcases h.1 with h3|h3
   .rw[hu]at h3;cases h3
   .exact h3
  |succ j=>exact ZL h.2 j v (by simpa using hj) hu
theorem uP:∀{l l2:List V},fewer l l2=true->∀(j:Nat) (v:V),l[j]?=some v->uX v=false->l2[j]?=some v
 |[],l2,_,j,v,h,_=>by simp at h
 |v::l,[],h,_,_,_,_=>by simp[fewer]at h
 |v::l,w::l2,h,j,a,ha,hu=>by
  simp only[fewer,ah,gQ]at h;cases j with
  |zero =>
   simp at ha;subst ha;rcases h.1 with h3|h3
   .rw[hu]at h3;cases h3
   .simp[jv h3]
  |succ j=>simpa using uP h.2 j a (by simpa using ha) hu
theorem Ui(T:Th):∀(σ:List (Nat×Bool)) (l ns:List V) (j s:Nat),NdO σ->σ[j]?=some (s,true)->(∀v,l[j]?=some v->uX v=true)->(T.wu σ l ns)[s]?=ns[s]?
 |[],l,ns,j,s,_,h,_=>by simp at h
 |t::σ,[],ns,j,s,_,_,_=>by simp[Th.wu]
 |t::σ,x::l,ns,0,s,hd,h1,h2=>by
  simp at h1;subst h1;have hx:=h2 x rfl;simp only[Th.wu,hx,Bool.true_or,cond_true];exact NU T σ l ns s hd.out
 |t::σ,x::l,ns,j+1,s,hd,h1,h2=>by
  simp only[List.getElem?_cons_succ]at h1 h2;simp only[Th.wu];rw[Ui T σ l _ j s hd.tail h1 h2];cases hb:uX x||!t.2 with
  |true=>rfl
  |false =>
   have ht:t.2=true:=by
    cases h3:t.2 with
    |true=>rfl
    |false=>rw[h3]at hb;simp at hb
   have hne:t.1≠s:=by
    intro he;have:t=(s,true):=Prod.ext he ht;subst this;exact hd.out (lK h1)
   simp[hne]
theorem alV{n:Int}{nm:List Nat}{b:Nat}{e:Bool}:I7 (nd 6 n nm (.list [ad b] e))=false:=rfl
variable {D:Nat}{A:Nat->Nat}{ow:Nat->Bool}{l ns:List V}
def owN(ow:Nat->Bool)(L:Nat)(j:Nat):Bool:=bif Nat.blt j L then ow j else true
theorem QA{L j:Nat}(h:j<L):owN ow L j=ow j:=by
 have:Nat.blt j L=true:=by simpa[Nat.blt,Nat.succ_le_iff]using h
 simp only[owN,this,cond_true]
section
variable (hv:Vw D A ow l ns)(hok:wB ns=true)(hroom:ns.length+60<=100000)(e:Bool)(xs:List V)(w p:V)
theorem JU{j:Nat}(h:l.length<=j):Hg A l.length ns.length j=ns.length+(j-l.length):=by
 unfold Hg;rw[if_neg (by omega)]
theorem Px{l:List V}{j:Nat}{v:V}(h:l[j]?=some v):j<l.length:=by
 rcases dP j l.length with h1|h1
 .exact h1
 .rw[gU h1]at h;cases h
theorem zM{l l2:List V}(hs:qC l l2=true){j:Nat}{v:V}(h:l2[j]?=some v)(hu:uX v=false)(hj:j<l.length):∃w,l[j]?=some w/\uX w=false/\(w=v\/I7 w=true):=by
 have g1:l[j]?=some l[j]:=bV hj;obtain⟨k1,k2⟩:=(uO hs).2 j _ _ g1 h;refine⟨_,g1,?_,k1⟩;cases hq:uX l[j]with
 |false=>rfl
 |true=>rw[k2 hq]at hu;cases hu
include hv in
theorem alH{l2:List V}(hs:qC l l2=true)(i j:Nat)(v w:V)(h1:l2[i]?=some v)(u1:uX v=false)(o1:owN ow l.length i=true)(h2:l2[j]?=some w)(u2:uX w=false)(o2:owN ow l.length j=true)(h:Hg A l.length ns.length i=Hg A l.length ns.length j):i=j:=by
 rcases dP i l.length with hi|hi
 .rcases dP j l.length with hj|hj
  .obtain⟨v0,g1,g2,_⟩:=zM hs h1 u1 hi;obtain⟨w0,g3,g4,_⟩:=zM hs h2 u2 hj;rw[QA hi]at o1;rw[QA hj]at o2;rw[wF hi,wF hj]at h;exact hv.inj i j v0 w0 g1 g2 o1 g3 g4 o2 h
  .rw[wF hi,JU hj]at h;have:=hv.low i hi;omega
 .rcases dP j l.length with hj|hj
  .rw[JU hi,wF hj]at h;have:=hv.low j hj;omega
  .rw[JU hi,JU hj]at h;omega
theorem aei{l2:List V}(hs:qC l l2=true){i:Nat}(hi:i<ns.length)(hq:∀(j:Nat) (v:V),A j=i->l[j]?=some v->uX v=false->ow j=true->I7 v=false):((jI hv hok hroom e xs w p).G l2)[i]?=ns[i]?:=by
 have hlen:(jI hv hok hroom e xs w p).ns=ns:=rfl;have hls:=(uO hs).1;by_cases hmem:(i,true)∈(jI hv hok hroom e xs w p).σ
 .obtain⟨j,hj⟩:=List.getElem?_of_mem hmem;have hj':(sgL A ow l)[j]?=some (i,true):=hj;have hjl:j<l.length:=by
   rcases dP j l.length with h|h
   .exact h
   .rw[Xl h]at hj';cases hj'
  rw[Xk hjl]at hj';simp only[aG,Prod.mk.injEq,ah,fQ]at hj';obtain⟨hA,ho,hu0⟩:=hj';have g1:l[j]?=some l[j]:=bV hjl;rw[kZ g1]at hu0;have g2:l2[j]?=some l2[j]:=bV (by omega);unfold Th.G;rw[jf (by rw[nI,hlen];exact hi),hlen];cases hu:uX l2[j]with
  |true=>exact Ui _ _ _ _ j i (jI hv hok hroom e xs w p).nodup hj (λv hv2=>by rw[g2]at hv2;cases hv2;exact hu)
  |false =>
   rw[WS _ _ _ _ j i _ (jI hv hok hroom e xs w p).nodup (by intro s hs2;exact(jI hv hok hroom e xs w p).low s hs2) hj g2 hu];obtain⟨k1,_⟩:=(uO hs).2 j _ _ g1 g2;have h3:=hq j _ hA g1 hu0 ho;rcases k1 with k1|k1
   .rw[<- k1];obtain⟨q1,q2,q3⟩:=hv.node j _ g1 hu0;rcases q3 with⟨_,q3⟩|⟨q3,_⟩
    .rw[PG q1,azE q2,<- q3,hA]
    .rw[ho]at q3;cases q3
   .rw[h3]at k1;cases k1
 .exact atM _ hmem hi
theorem aco{ns:List V}{A:Nat->Nat}{i d n:Nat}{n1:Int}{nm:List Nat}{e:Bool}{v:V}(hl:BG v=true)(h1:ns[d]?=some (nd 6 n1 nm (.list [.int .i64 (.ofNat n)] e)))(h2:ns[d]?=some (sub (rA A) v)):I7 v=false:=by
 obtain⟨k,n2,nm2,ks,js,rfl,_⟩:=Jc hl;rw[h1,yw]at h2;unfold nd at h2;simp only[aG,V.agg.injEq,gu,V.int.injEq,true_and]at h2;obtain⟨h2,_⟩:=h2;subst h2;rfl
theorem UZ{l2:List V}(hs:qC l l2=true){d b:Nat}{n1:Int}{nm:List Nat}{e1:Bool}(h:ns[d]?=some (nd 6 n1 nm (.list [.int .i64 (.ofNat b)] e1))):((jI hv hok hroom e xs w p).G l2)[d]?=some (nd 6 n1 nm (.list [.int .i64 (.ofNat b)] e1)):=by
 rw[aei hv hok hroom e xs w p hs (Px h) (λj v hA g1 g2 g3=>?_)]
 .exact h
 .obtain⟨q1,q2,q3⟩:=hv.node j v g1 g2;rcases q3 with⟨_,q3⟩|⟨q3,_⟩
  .rw[hA]at q3;exact aco (i:=0) q1 h q3
  .rw[g3]at q3;cases q3
theorem atz{l2:List V}(hs:qC l l2=true)(hb:ac6 l2.length l2=true):Vw D (Hg A l.length ns.length) (owN ow l.length) l2 ((jI hv hok hroom e xs w p).G l2) where
 zero d hd:=by
  have hdl:d<l.length:=by have:=hv.pos;omega
  rw[wF hdl];rcases hv.zero d hd with h|⟨h1,n,nm,e2,h2⟩
  .exact .inl h
  .refine .inr ⟨λj v g1 g2 g3=>?_,n,nm,e2,UZ hv hok hroom e xs w p hs h2⟩;rcases dP j l.length with hj|hj
   .rw[wF hj];obtain⟨v0,k1,k2,_⟩:=zM hs g1 g2 hj;rw[QA hj]at g3;exact h1 j v0 k1 k2 g3
   .rw[JU hj];have:=Px h2;omega
 pos:=by have:=(uO hs).1;have:=hv.pos;omega
 inj:=alH hv hs
 low j hj:=by
  have h1:=(uO hs).1;have h2:=Ed (jI hv hok hroom e xs w p) l2;rw[Wx]at h2;have h3:(jI hv hok hroom e xs w p).ns=ns:=rfl;rw[h3]at h2;rw[h2];unfold Hg
  split
  .rename_i h;have:=hv.low j h;omega
  .omega
 node j v h hu:=by
  obtain⟨k1,k2⟩:=ZL hb j v h hu;refine⟨k1,k2,?_⟩;have own:(jI hv hok hroom e xs w p).own j->((jI hv hok hroom e xs w p).G l2)[Hg A l.length ns.length j]?=some (sub (rA (Hg A l.length ns.length)) v):=λho=>by
   have h1:=atL (jI hv hok hroom e xs w p) h hu ho;rw[KJ,PG k1]at h1;exact h1
  rcases dP j l.length with hj|hj
  .rw[QA hj];obtain⟨v0,g1,g2,g3⟩:=zM hs h hu hj;rcases(hv.node j v0 g1 g2).2.2 with⟨q1,_⟩|⟨q1,n,nm,b,e2,q2,q3⟩
   .exact .inl ⟨q1,own (Wy λv hv2=>by rw[g1]at hv2;cases hv2;exact⟨g2,q1⟩)⟩
   .refine .inr ⟨q1,n,nm,b,e2,?_,?_⟩
    .rcases g3 with g3|g3
     .rw[<- g3,q2]
     .rw[q2,alV]at g3;cases g3
    .have hin:=(hv.node j v0 g1 g2).2.1;rw[q2]at hin;have hb2:b<l.length:=by
      simp only[nd,yA,wU,ad,cZ,Bool.true_and,ah]at hin;simpa[Nat.blt,Nat.succ_le_iff]using hin.2.2
     rw[wF hj,wF hb2,q3]
  .refine .inl ⟨?_,own (Wy λv hv2=>by rw[gU hj]at hv2;cases hv2)⟩;have:Nat.blt j l.length=false:=by
    cases hq:Nat.blt j l.length with
    |false=>rfl
    |true =>
         have:j<l.length:=by simpa[Nat.blt,Nat.succ_le_iff]using hq
         omega
   simp only[owN,this,cond_false]
def Dis(A:Nat->Nat)(ow:Nat->Bool)(l:List V)(B:Nat->Nat)(pw:Nat->Bool)(k:List V):Prop:=∀(i j:Nat) (v u:V),l[i]?=some v->uX v=false->ow i=true->k[j]?=some u->uX u=false->pw j=true->A i=B j->I7 v=false/\I7 u=false
theorem aoP{l2 k:List V}{B:Nat->Nat}{pw:Nat->Bool}(hs:qC l l2=true)(hB:Vw D B pw k ns)(hdis:Dis A ow l B pw k):Vw D B pw k ((jI hv hok hroom e xs w p).G l2) where
 zero d hd:=by
  rcases hB.zero d hd with h|⟨h1,n,nm,e2,h2⟩
  .exact .inl h
  .exact .inr ⟨h1,n,nm,e2,UZ hv hok hroom e xs w p hs h2⟩
 pos:=hB.pos
 inj:=hB.inj
 low j hj:=by
  have h2:=Ed (jI hv hok hroom e xs w p) l2;have h3:(jI hv hok hroom e xs w p).ns=ns:=rfl;rw[h3]at h2;have:=hB.low j hj;omega
 node j u h hu:=by
  obtain⟨k1,k2,k3⟩:=hB.node j u h hu;refine⟨k1,k2,?_⟩;rcases k3 with⟨q1,q2⟩|q
  .refine .inl ⟨q1,?_⟩;rw[aei hv hok hroom e xs w p hs (hB.low j (Px h)) (λi v hA hv2 hu2 ho2=>(hdis i j v u hv2 hu2 ho2 h hu q1 hA).1)];exact q2
  .exact .inr q
end
theorem abd{l3:List V}(hv:Vw D A ow l ns)(hf:fewer l3 l=true)(hlen:l3.length=l.length):Vw D A ow l3 ns where
 zero d hd:=by
  rcases hv.zero d hd with h|⟨h1,h2⟩
  .exact .inl h
  .exact .inr ⟨λj v g1 g2 g3=>h1 j v (uP hf j v g1 g2) g2 g3,h2⟩
 pos:=by rw[hlen];exact hv.pos
 inj i j v w h1 u1 o1 h2 u2 o2:=hv.inj i j v w (uP hf i v h1 u1) u1 o1 (uP hf j w h2 u2) u2 o2
 low j hj:=hv.low j (by omega)
 node j v h hu:=by
  have:=hv.node j v (uP hf j v h hu) hu;rw[hlen];exact this
theorem Dis.symm{B:Nat->Nat}{pw:Nat->Bool}{k:List V}(h:Dis A ow l B pw k):Dis B pw k A ow l:=λi j v u h1 h2 h3 h4 h5 h6 h7=>(h j i u v h4 h5 h6 h1 h2 h3 h7.symm).symm
theorem akB{B:Nat->Nat}{pw:Nat->Bool}{k l2 l3:List V}(hB:Vw D B pw k ns)(hd:Dis A ow l B pw k)(hs:qC l l2=true)(hf:fewer l3 l2=true):Dis (Hg A l.length ns.length) (owN ow l.length) l3 B pw k:=by
 intro i j v u h1 h2 o1 h3 h4 o2 h5;have g1:=uP hf i v h1 h2;have hlow:=hB.low j (Px h3);rcases dP i l.length with hi|hi
 .rw[wF hi]at h5;rw[QA hi]at o1;obtain⟨w0,q1,q2,q3⟩:=zM hs g1 h2 hi;obtain⟨z1,z2⟩:=hd i j w0 u q1 q2 o1 h3 h4 o2 h5;refine⟨?_,z2⟩;rcases q3 with q3|q3
  .rw[<- q3];exact z1
  .rw[z1]at q3;cases q3
 .rw[JU hi]at h5;omega
end
section
mutual
def dV:V->V
 |.iE cs=>.iE (bY cs)
 |.list xs _=>.list (bY xs) false
 |.func fn a b=>.func fn (bY a) (bY b)
 |.iface t v=>.iface t (dV v)
 |.agg cs=>.agg (bY cs)
 |.tuple cs=>.tuple (bY cs)
 |.undef=>.undef
 |.bool b=>.bool b
 |.int k n=>.int k n
 |.str s=>.str s
 |.nilPtr=>.nilPtr
 |.aY a b=>.aY a b
 |.bg a b=>.bg a b
 |.aj=>.aj
 |.hsl a b c d e=>.hsl a b c d e
 |.fA=>.fA
 |.map a=>.map a
 |.nilFunc=>.nilFunc
 |.nilIface=>.nilIface
def bY:List V->List V
 |[]=>[]
 |v::vs=>dV v::bY vs
end
theorem oQ:∀l:List V,(bY l).length=l.length
 |[]=>by simp only[bY]
 |v::l=>by simp only[bY,bP,oQ l]
theorem oL:∀{l:List V} {i:Nat} {x:V},(bY l)[i]?=some x->∃y,l[i]?=some y/\x=dV y
 |[],i,x,h=>by simp[bY]at h
 |v::l,0,x,h=>by simp[bY]at h;exact⟨v,rfl,h.symm⟩
 |v::l,i+1,x,h=>by
  simp only[bY,List.getElem?_cons_succ]at h;obtain⟨y,h1,h2⟩:=oL h;exact⟨y,by simpa using h1,h2⟩
theorem Lj(v:V):(dV v).cells=bY v.cells:=by cases v<;>simp only[dV,V.cells,bY]
theorem atG(v:V):EC (dV v)=EC v:=by cases v<;>simp only[dV,EC]
theorem Rv.weak{g:G}{v:V}{w:Value}(h:Rv g v w):Rv g (dV v) w:=by
 induction h with
 |undef w=>simp only[dV];exact .undef w
 |bool b=>simp only[dV];exact .bool b
 |int k n=>simp only[dV];exact .int k n
 |str bs=>simp only[dV];exact .str bs
 |nilPtr=>simp only[dV];exact .nilPtr
 |bg off h=>simp only[dV];exact .bg off h
 |iE vs h hr ih =>
  simp only[dV];refine .iE vs (λj c e=>?_) (λj c e=>?_)
  .obtain⟨y,h1,rfl⟩:=oL e;exact h j y h1
  .obtain⟨y,h1,rfl⟩:=oL e;exact ih j y h1
 |aj=>simp only[dV];exact .aj
 |list k vs hk hc he hp h hr ih =>
  rename_i xs ex b o cap;simp only[dV];have hl:=oQ xs;rw[<- hl];refine .list k vs (λx hx=>?_) (by rw[hl];exact hc) (λe=>by cases e) (λx hx e=>?_) (λi x j c e e'=>?_) (λi x j c e e'=>?_)
  .obtain⟨i,hi⟩:=List.getElem?_of_mem hx;obtain⟨y,h1,rfl⟩:=oL hi;rw[Lj,oQ];exact hk y (lK h1)
  .obtain⟨i,hi⟩:=List.getElem?_of_mem hx;obtain⟨y,h1,rfl⟩:=oL hi;rw[atG]at e;exact hp y (lK h1) e
  .obtain⟨y,h1,rfl⟩:=oL e;rw[Lj]at e';obtain⟨z,h2,rfl⟩:=oL e';exact h i y j z h1 h2
  .obtain⟨y,h1,rfl⟩:=oL e;rw[Lj]at e';obtain⟨z,h2,rfl⟩:=oL e';exact ih i y j z h1 h2
 |hsl h hl hc hn=>simp only[dV];exact .hsl h hl hc hn
 |fA=>simp only[dV];exact .fA
 |map h=>simp only[dV];exact .map h
 |nilFunc=>simp only[dV];exact .nilFunc
 |func hf ha hb has hbs i1 i2 =>
  simp only[dV];refine .func hf (by rw[oQ];exact ha) (by rw[oQ];exact hb) (λi v w e e'=>?_) (λi v w e e'=>?_)
  .obtain⟨y,h1,rfl⟩:=oL e;exact i1 i y w h1 e'
  .obtain⟨y,h1,rfl⟩:=oL e;exact i2 i y w h1 e'
 |nilIface=>simp only[dV];exact .nilIface
 |iface t h ih=>simp only[dV];exact .iface t ih
 |agg hl h ih =>
  simp only[dV];refine .agg (by rw[oQ];exact hl) (λi v w e e'=>?_);obtain⟨y,h1,rfl⟩:=oL e;exact ih i y w h1 e'
 |tuple hl h ih =>
  simp only[dV];refine .tuple (by rw[oQ];exact hl) (λi v w e e'=>?_);obtain⟨y,h1,rfl⟩:=oL e;exact ih i y w h1 e'
def Wk(v u:V):Prop:=∀g w,Rv g v w->Rv g u w
theorem Wk.refl(v:V):Wk v v:=λ_ _ h=>h
theorem Wk.wk(v:V):Wk v (dV v):=λ_ _ h=>h.weak
variable {P:Program}{Hn:Hints}{f:Nat}{a:List V}{v u:V}
theorem ajq.weak(h:ajq P Hn f a v)(hw:Wk v u):ajq P Hn f a u:=fun σ g As w v' σ' ha hr e=>by
 cases e;have key:∀x w',xJ P Hn g σ w v σ x w'->xJ P Hn g σ w u σ x w':=λx w' ⟨g',h1,h2,h3⟩=>⟨g',hw _ _ h1,h2,h3⟩;rcases h σ g As w v σ ha hr rfl with⟨h1,h2⟩|⟨h1,x,w',h2,h3⟩
 .refine .inl ⟨h1,CallsIn.mono h2 λe w' he=>?_⟩;cases e<;>first|exact key _ _ he|exact he.elim
 .exact .inr ⟨h1,x,w',h2,key _ _ h3⟩
end
section
theorem Qk(v:V):jw (dV v)=jw v:=by cases v<;>simp only[dV,jw]
theorem aAJ(n:Nat):dV (jn n)=jn n:=by simp only[jn,dV]
theorem rC:∀a b:List V,bY (a++b)=bY a++bY b
 |[],b=>by simp only[bY,je]
 |v::a,b=>by simp only[dZ,bY,rC a b]
theorem tX{α:Type}(f:α->V):∀l:List α,bY (l.map f)=l.map λx=>dV (f x)
 |[]=>by simp only[kX,bY]
 |x::l=>by simp only[bD,bY,tX f l]
mutual
theorem aoY:∀v:V,dV (dV v)=dV v
 |.iE cs=>by simp only[dV,yQ cs]
 |.list xs _=>by simp only[dV,yQ xs]
 |.func fn a b=>by simp only[dV,yQ a,yQ b]
 |.iface t v=>by simp only[dV,aoY v]
 |.agg cs=>by simp only[dV,yQ cs]
 |.tuple cs=>by simp only[dV,yQ cs]
 |.undef=>by simp only[dV]
 |.bool b=>by simp only[dV]
 |.int k n=>by simp only[dV]
 |.str s=>by simp only[dV]
 |.nilPtr=>by simp only[dV]
 |.aY a b=>by simp only[dV]
 |.bg a b=>by simp only[dV]
 |.aj=>by simp only[dV]
 |.hsl a b c d e=>by simp only[dV]
 |.fA=>by simp only[dV]
 |.map a=>by simp only[dV]
 |.nilFunc=>by simp only[dV]
 |.nilIface=>by simp only[dV]
theorem yQ:∀l:List V,bY (bY l)=bY l
 |[]=>by simp only[bY]
 |v::l=>by simp only[bY,aoY v,yQ l]
end
class XO (ρ:V->V):Prop where
 wk:∀p,dV (ρ p)=dV (ρ (dV p))
mutual
theorem aec{ρ:V->V}[XO ρ]:∀v:V,dV (sub ρ v)=dV (sub ρ (dV v))
 |.iE cs=>by simp only[dV,sub,DF cs]
 |.list xs _=>by simp only[dV,sub,DF xs]
 |.func fn a b=>by simp only[dV,sub,DF a,DF b]
 |.iface t v=>by
  simp only[dV,jH];cases Nat.beq t 1000000 with
  |true=>simp only[cond_true];exact XO.wk v
  |false=>simp only[cond_false,dV,aec v]
 |.agg cs=>by simp only[dV,sub,DF cs]
 |.tuple cs=>by simp only[dV,sub,DF cs]
 |.undef=>by simp only[dV]
 |.bool b=>by simp only[dV]
 |.int k n=>by simp only[dV]
 |.str s=>by simp only[dV]
 |.nilPtr=>by simp only[dV]
 |.aY a b=>by simp only[dV]
 |.bg a b=>by simp only[dV]
 |.aj=>by simp only[dV]
 |.hsl a b c d e=>by simp only[dV]
 |.fA=>by simp only[dV]
 |.map a=>by simp only[dV]
 |.nilFunc=>by simp only[dV]
 |.nilIface=>by simp only[dV]
theorem DF{ρ:V->V}[XO ρ]:∀l:List V,bY (subs ρ l)=bY (subs ρ (bY l))
 |[]=>by simp only[bY]
 |v::l=>by simp only[bY,subs,aec v,DF l]
end
theorem aAK{A:Nat->Nat}{L:Nat}(v:V):yA L v=true->dV (sub (rA A) v)=sub (rA A) (dV v):=by
 refine V.rec (motive_1:=λv=>yA L v=true->dV (sub (rA A) v)=sub (rA A) (dV v)) (motive_2:=λl=>wU L l=true->bY (subs (rA A) l)=subs (rA A) (bY l)) ?_ ?_ ?_ ?_ ?_ ?_ ?_ ?_ ?_ ?_ ?_ ?_ ?_ ?_ ?_ ?_ ?_ ?_ ?_ ?_ ?_ v
 .intro h;simp[yA]at h
 .intro b _;simp only[sub,dV]
 .intro k n _;simp only[sub,dV]
 .intro s _;simp only[sub,dV]
 .intro h;simp[yA]at h
 .intro a b h;simp[yA]at h
 .intro a b h;simp[yA]at h
 .intro cs ih h;simp[yA]at h
 .intro _;simp only[sub,dV]
 .intro xs e ih h;simp only[sub,dV];rw[ih (by simpa[yA]using h)]
 .intro a b c d e h;simp[yA]at h
 .intro h;simp[yA]at h
 .intro a h;simp[yA]at h
 .intro h;simp[yA]at h
 .intro f a b i1 i2 h;simp[yA]at h
 .intro h;simp[yA]at h
 .intro t v ih h;obtain⟨rfl,j,rfl,_⟩:=Y5 h;simp only[dV,nD];show dV (V.int .i64 (.ofNat (A j)))=_;simp only[dV];rfl
 .intro cs ih h;simp only[sub,dV];rw[ih (by simpa[yA]using h)]
 .intro cs ih h;simp[yA]at h
 .intro _;simp only[subs,bY]
 .intro v l i1 i2 h;simp only[wU,ah]at h;simp only[subs,bY,i1 h.1,i2 h.2]
theorem aee{A:Nat->Nat}{L:Nat}:∀(l:List V),wU L l=true->bY (subs (rA A) l)=subs (rA A) (bY l)
 |[],_=>by simp only[subs,bY]
 |v::l,h=>by
  simp only[wU,ah]at h;simp only[subs,bY,aAK v h.1,aee l h.2]
theorem Rx(k n:Int)(nm:List Nat)(ks:V):dV (nd k n nm ks)=nd k n nm (dV ks):=by simp only[nd,dV,bY]
theorem apv(v:V):Hl (dV v)=Hl v:=by
 cases v<;>simp only[dV,Hl];rename_i t p;rw[Qk]
theorem XR:∀l:List V,DI (bY l)=DI l
 |[]=>by simp only[bY,DI]
 |v::l=>by simp only[bY,DI,apv,XR l]
theorem ahA(m:Nat)(v:V):jr m (dV v)=jr m v:=by
 cases v<;>simp only[dV,jr];rename_i xs e;rw[XR]
theorem ah6(v:V):gV (dV v)=(gV v).map λp=>(p.1,p.2.1,p.2.2.1,dV p.2.2.2):=by
 cases v<;>try (simp only[dV,gV,dW];done)
 rename_i cs
 match cs with
 |[]=>simp only[dV,bY,gV,dW]
 |[a]=>simp only[dV,bY,gV,dW]
 |[a,b]=>simp only[dV,bY,gV,dW]
 |[a,b,c]=>simp only[dV,bY,gV,dW]
 |a::b::c::d::e::r=>simp only[dV,bY,gV,dW]
 |[a,b,c,d] =>
  simp only[dV,bY,gV];cases a<;>simp only[dV,dW];cases b<;>simp only[dV,dW];cases c<;>simp only[dV,dW];rename_i k x k2 y s;cases eqK k .i64&&eqK k2 .i64<;>rfl
theorem arv(v:V):BG (dV v)=BG v:=by
 unfold BG;rw[ah6];cases gV v with
 |none=>rfl
 |some p=>simp only[bT,ahA]
variable (T:Th)
theorem aoW(v:V):dV (T.img v)=dV (T.img (dV v)):=by
 unfold Th.img;rw[arv];cases h:BG v with
 |false=>rfl
 |true =>
  obtain⟨k,n,nm,ks,js,rfl,hk⟩:=Jc h;obtain⟨_,_,hc⟩:=jk hk;have hr:∀js:List Nat,bY (js.map ad)=js.map ad:=λjs=>by rw[tX];rfl
  simp only[cond_true,yw,Rx];congr 1;rcases hc with⟨rfl,_⟩|⟨e,rfl⟩
  .simp only[dV]
  .simp only[sub,dV,hr]
theorem awg(v:V):uX (dV v)=uX v:=by cases v<;>simp only[dV,uX]
theorem JJ:∀(l:List V) (i:Nat) (v:V),bY (l.set i v)=(bY l).set i (dV v)
 |[],i,v=>by simp only[List.set_nil,bY]
 |x::l,0,v=>by simp only[List.set_cons_zero,bY]
 |x::l,i+1,v=>by simp only[rO,bY,JJ l i v]
theorem aoX:∀(σ:List (Nat×Bool)) (l ns nU:List V),bY ns=bY nU->bY (T.wu σ l ns)=bY (T.wu σ (bY l) nU)
 |[],l,ns,nU,h=>by simpa only[Th.wu]using h
 |s::σ,[],ns,nU,h=>by simpa only[bY,Th.wu]using h
 |s::σ,v::l,ns,nU,h=>by
  simp only[bY,Th.wu,awg];refine aoX σ l _ _ ?_;cases uX v||!s.2 with
  |true=>exact h
  |false=>simp only[cond_false,JJ,h,aoW T v]
theorem Ll:∀(n:Nat) (l:List V),bY (l.drop n)=(bY l).drop n
 |0,l=>by simp only[rG]
 |n+1,[]=>by simp only[List.drop_nil,bY]
 |n+1,x::l=>by simp only[List.drop_succ_cons,bY,Ll n l]
theorem aAI(l:List V):bY (T.G l)=bY (T.G (bY l)):=by
 unfold Th.G;rw[rC,rC,aoX T T.σ l T.ns T.ns rfl];congr 1;rw[<- Ll];generalize l.drop T.σ.length=q
 induction q with
 |nil=>simp only[bY,kX]
 |cons v q ih=>simp only[bY,bD,ih,aoW T v]
theorem au1{l:List V}(hn:bY T.ns=T.ns)(hl:bY l=l):bY (T.G l)=T.G l:=by
 have hi:∀v,dV v=v->dV (T.img v)=T.img v:=λv hv=>by
  unfold Th.img;cases h:BG v with
  |false=>simp only[cond_false,Rx,dV]
  |true =>
   obtain⟨k,n,nm,ks,js,rfl,hk⟩:=Jc h;obtain⟨_,_,hc⟩:=jk hk;rw[Rx]at hv;have hks:dV ks=ks:=by
    unfold nd at hv;simp only[V.agg.injEq,gu,true_and,and_true]at hv;exact hv
   simp only[cond_true,yw,Rx];congr 1;rcases hc with⟨rfl,_⟩|⟨e,rfl⟩
   .simp only[sub,dV]
   .simp only[dV,V.list.injEq]at hks;obtain⟨_,rfl⟩:=hks;simp only[sub,adu,dV];rw[tX];simp only[dV]
 have ho:∀(σ:List (Nat×Bool)) (l ns:List V),bY l=l->bY ns=ns->bY (T.wu σ l ns)=T.wu σ l ns:=by
  intro σ
  induction σ with
  |nil=>intro l ns _ h;simpa only[Th.wu]using h
  |cons s σ ih =>
   intro l ns h1 h2;cases l with
   |nil=>simpa only[Th.wu]using h2
   |cons v l =>
    simp only[bY,gu]at h1;simp only[Th.wu];refine ih l _ h1.2 ?_;cases uX v||!s.2 with
    |true=>exact h2
    |false=>simp only[cond_false,JJ,h2,hi v h1.1]
 unfold Th.G;rw[rC,ho _ _ _ hl hn];congr 1;have:∀q:List V,bY q=q->bY (q.map T.img)=q.map T.img:=by
  intro q
  induction q with
  |nil=>intro _;simp only[kX,bY]
  |cons v q ih =>
   intro h;simp only[bY,gu]at h;simp only[bD,bY,hi v h.1,ih h.2]
 exact this _ (by rw[Ll,hl])
theorem atH(xs:List V)(w p:V)(ps:List V):Np xs w p (bY ps)=Np xs w p ps:=by
 match ps with
 |[]=>simp only[bY]
 |[a]=>simp only[bY,Np]
 |[a,b]=>simp only[bY,Np,Qk]
 |[a,b,c]=>simp only[bY,Np,Qk]
 |a::b::c::d::r=>simp only[bY,Np]
theorem ali(T:Th)(ho:∀ps,dV (T.oth ps)=dV (T.oth (bY ps))):XO T.ro where
 wk q:=by
  cases q<;>try (simp only[dV];done)
  .simp only[dV,Th.ro];rw[<- aAI T]
  .simp only[dV,Th.ro];rw[<- aAI T]
  .simp only[dV,Th.ro]
  .simp only[dV,Th.ro]
  .simp only[dV,Th.ro]
  .rename_i ps;simp only[dV,Th.ro];exact ho ps
instance aEL {D:Nat}{A:Nat->Nat}{ow:Nat->Bool}{l ns:List V}(hv:Vw D A ow l ns)(hok:wB ns=true)(hroom:ns.length+60<=100000)(e:Bool)(xs:List V)(w p:V):XO (jI hv hok hroom e xs w p).ro :=
 ali (jI hv hok hroom e xs w p) λps=>by
  show dV (Np xs w p ps)=dV (Np xs w p (bY ps));rw[atH]
end
section
def aw0(v:V):Bool:=match v with
 |.int _ _=>true
 |.aj=>true
 |.list _ _=>true
 |.iface t _=>Nat.beq t 1000000
 |_=>false
def vK:List V->Bool
 |[]=>true
 |v::vs=>aw0 v&&(aO v&&vK vs)
theorem Dp{ρ:V->V}[Good ρ]:∀{l:List V},vK l=true->∀c∈subs ρ l,fM c=true/\aO c=true
 |[],_,c,hc=>by simp[subs]at hc
 |v::l,h,c,hc=>by
  simp only[vK,ah]at h;simp only[subs,bU]at hc;rcases hc with rfl|hc
  .refine⟨?_,Et v h.2.1⟩;cases v<;>first|(cases h.1;done)|rfl|skip
   rename_i t p;have ht:=aP (show Nat.beq t 1000000=true from h.1);subst ht;rw[nD];exact Good.plain p
  .exact Dp h.2.2 c hc
structure U3 where
 x:List V
 l:List V
 hp:V
 o:V
 ev:V
 more:List V
structure SL (C:Cst)(t m:Nat)(s:Ks)(oK:V)(r:U3):Prop where
 run:∃rK,nY (nZ (TY s.l C.D C.most (RN C)) oC 1000000 (.call 84 [JK C s.l (D6 t s.x 0 m) oK,jn t,.int .i64 C.deep]) zW bx0 emp) rK=true/\aO rK=true/\dV rK=.tuple [zS C r.hp ct0 (D6 t r.x 0 m++r.more) r.o,r.ev]
 same:qC s.l r.l=true
 nodes:ac6 r.l.length r.l=true
 grow:r.l.length<=s.l.length+3
 inx:wU r.l.length r.x=true
 cells:vK r.x=true
 eleven:r.x.length=11
 hp:(r.hp=sy (.iE s.l)/\r.l=s.l)\/r.hp=sy (.list r.l false)
 wl:bY r.l=r.l
 ev:nX r.ev=true/\Yy r.ev=true
 inm:wU r.l.length r.more=true
instance aBQ (A:Nat->Nat):Good (rA A) where
 plain v:=by
  cases v<;>first|rfl|skip
  rename_i k n;cases n<;>rfl
 flat v:=by
  cases v<;>first|rfl|skip
  rename_i k n;cases n<;>rfl
theorem L6:∀(l:List V) (i j:Nat) (x:V),i≠j->aA (l.set i x) j=aA l j
 |[],i,j,x,_=>by simp
 |y::l,0,0,x,h=>absurd rfl h
 |y::l,0,j+1,x,_=>by simp only[List.set_cons_zero,iL]
 |y::l,i+1,0,x,_=>by simp only[rO,kG]
 |y::l,i+1,j+1,x,h=>by simp only[rO,iL];exact L6 l i j x (by omega)
structure At (D:Nat)(A:Nat->Nat)(ow:Nat->Bool)(s:Ks)(ns:List V)(X:V):Prop where
 vw:Vw D A ow s.l ns
 x:X=.agg (subs (rA A) s.x)
 inx:wU s.l.length s.x=true
variable {C:Cst}{t m:Nat}{s:Ks}{c o oK:V}{r:U3}{ns xs:List V}{A:Nat->Nat}{ow:Nat->Bool}{X:V}
structure SI (C:Cst):Prop where
 ops:nX C.ops=true
 defs:nX C.defs=true
 YR:aO C.ops=true
 O8:aO C.defs=true
 axQ:dV C.ops=C.ops
 aoU:dV C.defs=C.defs
 chk:EvT 71 [.agg [C.ops,C.defs]] (.bool true)
theorem awc{A B:Nat->Nat}{L:Nat}(h:∀j,j<L->A j=B j){v:V}(hv:yA L v=true):sub (rA A) v=sub (rA B) v :=
 Oa (L:=L) (λj hj=>by show V.int .i64 (.ofNat (A j))=V.int .i64 (.ofNat (B j));rw[h j hj]) v hv
theorem aqT{A B:Nat->Nat}{L:Nat}(h:∀j,j<L->A j=B j){v:List V}(hv:wU L v=true):subs (rA A) v=subs (rA B) v :=
 JE (L:=L) (λj hj=>by show V.int .i64 (.ofNat (A j))=V.int .i64 (.ofNat (B j));rw[h j hj]) v hv
theorem lu{l:List V}{i:Nat}{v:V}(h:l[i]?=some v):i<l.length:=Px h
theorem Lp(l:List V)(t:Nat)(v:V)(hl:bY l=l)(hv:dV v=v):bY (l.set t v)=l.set t v:=by rw[JJ,hl,hv]
theorem aaW(hC:SI C)(hf:SL C t m s oK r)
  (hok:wB ns=true) (hroom:ns.length+60<=100000) (hM:wX (Int.ofNat (ns.length+50)) C.most=true)
  (hxs:∀X∈xs,ThC X) (hm:xs.length=m) (htm:xs[t]?=some X) (ha:At C.D A ow s ns X) (hc:pf c=c) (hof:aO o=true) (hcw:dV c=c) (hwn:bY ns=ns) (hwx:bY xs=xs) (hrw:bY r.x=r.x) (hmw:bY r.more=r.more)
  (hO:∀ρ:V->V,ρ (.tuple [.bool false])=pf o->(∀i j k,ρ (.tuple [jn i,jn j,jn k])=pf (aA (Nj o) i))->sub ρ oK=o)
  {o2:V} (hO2:∀ρ:V->V,ρ (.tuple [.bool false])=pf o->(∀i j k,ρ (.tuple [jn i,jn j,jn k])=pf (aA (Nj o) i))->dV (sub ρ r.o)=o2) :
  ∃(nU:List V) (A2:Nat->Nat) (D9:Nat->Bool),(∀j,j<s.l.length->A2 j=A j) /\
   (∃rR,EvB 84 [zS C (.list ns false) c xs o,jn t,.int .i64 C.deep] rR/\dV rR=.tuple [zS C (.list nU false) c (xs.set t (.agg (subs (rA A2) r.x))++subs (rA A2) r.more) o2,r.ev]) /\
   wB nU=true/\bY nU=nU/\nU.length=ns.length+(r.l.length-s.l.length)/\ThC (.agg (subs (rA A2) r.x))/\dV (.agg (subs (rA A2) r.x))=.agg (subs (rA A2) r.x)/\bY (subs (rA A2) r.more)=subs (rA A2) r.more/\Vw C.D A2 D9 r.l nU /\
   (∀(B:Nat->Nat) (pw:Nat->Bool) (k:List V),Vw C.D B pw k ns->Dis A ow s.l B pw k->Vw C.D B pw k nU/\∀l3,fewer l3 r.l=true->Dis A2 D9 l3 B pw k)/\(∃T:Th,T.ns=ns/\T.σ.length=s.l.length/\nU=T.G r.l):=by
 have hv:=ha.vw;have htl:=lu htm;have hx0:xs[t]?=some (.agg (subs (rA A) s.x)):=by rw[htm,ha.x]
 obtain⟨rK,hrun,hfl,hrK⟩:=hf.run;have hO':=hO (jI hv hok hroom false xs o c).ro rfl (λi j k=>rfl);have aBX:=hO2 (jI hv hok hroom false xs o c).ro rfl (λi j k=>rfl);have hxA:∀{L:Nat} {z:List V},wU L z=true->subs (jI hv hok hroom false xs o c).ro z=subs (rA (Hg A s.l.length ns.length)) z:=by
  intro L z hz;have h1:yA L (.agg z)=true:=by simpa[yA]using hz
  have h2:=ZQ (hv:=hv) (hok:=hok) (hroom:=hroom) (e:=false) (xs:=xs) (w:=o) (p:=c) h1;simp only[sub,V.agg.injEq]at h2;exact h2
 have hsx:subs (jI hv hok hroom false xs o c).ro s.x=subs (rA A) s.x:=by
  rw[hxA ha.inx];exact aqT (L:=s.l.length) (λj hj=>wF hj) ha.inx
 have hts:=JG (ρ:=(jI hv hok hroom false xs o c).ro) (x:=s.x) (t:=t) hxs (by rw[hsx];exact hx0) (λu i _=>rfl) m 0 (by omega);rw[rG]at hts;have ans:=UW (n:=1000000) (f:=84) (more:=[jn t,.int .i64 C.deep]) hC.ops hC.defs hC.YR hC.O8 hC.chk hv hok hroom hM (Oj hxs) hts hc hO' hof rfl rfl hrun hfl;have hA2:∀j,j<s.l.length->Hg A s.l.length ns.length j=A j:=λj hj=>wF hj;have ag4:ThC (.agg (subs (rA (Hg A s.l.length ns.length)) r.x)):=⟨_,rfl,by rw[iQ];exact hf.eleven,Dp hf.cells⟩;have aCP:∀X∈xs.set t (.agg (subs (rA (Hg A s.l.length ns.length)) r.x)),ThC X:=λX hX=>by
  rcases List.mem_or_eq_of_mem_set hX with h|h
  .exact hxs X h
  .subst h;exact ag4
 have hth:=JG (ρ:=(jI hv hok hroom false xs o c).ro) (x:=r.x) (t:=t) aCP (by rw[hxA hf.inx];simp[htl]) (λu i hu=>by
  rw[L6 _ _ _ _ (Ne.symm hu)];rfl) m 0 (by simp[hm])
 rw[rG]at hth;have hev:sub (jI hv hok hroom false xs o c).ro r.ev=r.ev:=nC _ hf.ev.1;have hh:∃e2,sub (jI hv hok hroom false xs o c).ro r.hp=.list ((jI hv hok hroom false xs o c).G r.l) e2:=by
  rcases hf.hp with⟨h1,h2⟩|h1
  .rw[h1,h2,sy,nD];exact⟨false,rfl⟩
  .rw[h1,sy,nD];exact⟨false,rfl⟩
 obtain⟨e2,hh⟩:=hh;have hG:=Ed (jI hv hok hroom false xs o c) r.l;rw[Wx]at hG;have hwG:bY ((jI hv hok hroom false xs o c).G r.l)=(jI hv hok hroom false xs o c).G r.l:=au1 _ hwn hf.wl;have hwX:dV (.agg (subs (rA (Hg A s.l.length ns.length)) r.x))=.agg (subs (rA (Hg A s.l.length ns.length)) r.x):=by
  simp only[dV,aee _ hf.inx,hrw]
 have hwM:bY (subs (rA (Hg A s.l.length ns.length)) r.more)=subs (rA (Hg A s.l.length ns.length)) r.more:=by
  rw[aee _ hf.inm,hmw]
 have aCN:dV r.ev=r.ev:=by
  have:=congrArg dV hrK;rw[aoY,hrK]at this;simp only[dV,bY,V.tuple.injEq,gu,and_true]at this;exact this.2.symm
 refine⟨(jI hv hok hroom false xs o c).G r.l,Hg A s.l.length ns.length,owN ow s.l.length,hA2,⟨_,ans,?_⟩,abu _ _,hwG,hG,ag4,hwX,hwM,atz hv hok hroom false xs o c hf.same hf.nodes,λB pw k hB hd=>⟨aoP hv hok hroom false xs o c hf.same hB hd,λl3 h3=>akB hB hd hf.same h3⟩,⟨jI hv hok hroom false xs o c,rfl,adM,rfl⟩⟩;rw[aec,hrK];have hcc:sub (jI hv hok hroom false xs o c).ro ct0=c:=by
  rw[ct0,sy,nD];exact hc
 simp only[zS,sub,subs,qY,nC _ hC.ops,nC _ hC.defs,hh,hcc,hth,hxA hf.inm,hev,jn,dV,bY,rC,hC.axQ,hC.aoU,hwG,hcw,Lp _ _ _ hwx hwX,hwM,aBX,aCN]
end
section
def tot:Nat->(Nat->Nat)->Nat
 |0,P=>P 0
 |n+1,P=>P (n+1)+tot n P
def upd(P:Nat->Nat)(t u:Nat):Nat:=if u=t then P t+1 else P u
theorem upd_same(P:Nat->Nat)(t:Nat):upd P t t=P t+1:=by simp[upd]
theorem upd_ne{P:Nat->Nat}{t u:Nat}(h:u≠t):upd P t u=P u:=by simp[upd,h]
theorem afS:∀{n t:Nat} {P:Nat->Nat},n<t->tot n (upd P t)=tot n P
 |0,t,P,h=>by simp only[tot];exact upd_ne (by omega)
 |n+1,t,P,h=>by simp only[tot];rw[upd_ne (by omega),afS (by omega)]
theorem afT:∀{n t:Nat} {P:Nat->Nat},t<=n->tot n (upd P t)=tot n P+1
 |0,t,P,h=>by
  have:t=0:=by omega
  subst this;simp only[tot,upd_same]
 |n+1,t,P,h=>by
  simp only[tot];by_cases ht:t=n+1
  .subst ht;rw[upd_same,afS (by omega)];omega
  .rw[upd_ne (Ne.symm ht),afT (by omega)];omega
theorem XF:∀{n:Nat} {P K:Nat->Nat},(∀t,t<=n->P t<=K t)->tot n P<=tot n K
 |0,P,K,h=>h 0 (aJ _)
 |n+1,P,K,h=>by
  have h1:=h (n+1) (aJ _);have h2:=XF (n:=n) λt ht=>h t (by omega);simp only[tot];omega
def adL:List V->List V->Bool
 |[],_=>true
 |v::l,l2=>match l2 with|w::l2=>(uX v||uX w||(!(I7 v)&&!(I7 w)))&&adL l l2|[]=>true
theorem aaw:∀{l l2:List V},adL l l2=true->∀(j:Nat) (v w:V),l[j]?=some v->uX v=false->l2[j]?=some w->uX w=false->I7 v=false/\I7 w=false
 |[],l2,_,j,v,w,h,_,_,_=>by simp at h
 |v::l,[],_,j,a,b,_,_,h,_=>by simp at h
 |v::l,w::l2,h,j,a,b,ha,hua,hb,hub=>by
  simp only[adL,ah,gQ,fQ]at h;cases j with
  |zero =>
   simp at ha hb;subst ha;subst hb;rcases h.1 with h1|h1
   .rcases h1 with h1|h1
    .rw[hua]at h1;cases h1
    .rw[hub]at h1;cases h1
   .exact h1
  |succ j=>exact aaw h.2 j a b (by simpa using ha) hua (by simpa using hb) hub
structure Rws where
 C:Cst
 n:Nat
 R:Nat->Nat->Ks
 K:Nat->Nat
 mn:Nat->Nat
 res:Nat->Nat->U3
 pr:Nat->Nat->Option Nat
 B:Nat
def WY(p:Option Nat):List Nat:=match p with|some v=>[v]|none=>[]
def oV:List Nat->V
 |[]=>.aj
 |v::os=>.list ((v::os).map jn) false
structure wz (Y:Rws):Prop where
 cst:SI Y.C
 room:1+3*tot Y.n Y.K+Y.C.D*1000+60<=100000
 most:wX (Int.ofNat (1+3*tot Y.n Y.K+Y.C.D*1000+50)) Y.C.most=true
 st0:∀t k m,t<=Y.n->k<Y.K t->(t=0->m=Y.mn k)->(t≠0->t<m/\m<=Y.n+1)->Y.pr t k=none->SL Y.C t m (Y.R t k) XM (Y.res t k)/\(Y.res t k).o=XM
 st1:∀t k m v,t<=Y.n->k<Y.K t->(t=0->m=Y.mn k)->(t≠0->t<m/\m<=Y.n+1)->Y.pr t k=some v->∀q,q<=Y.B->SL Y.C t m (Y.R t k) (otN q) { Y.res t k with o:=.list (Si 0 q++[jn v]) false }
 wk:∀t k,t<=Y.n->k<Y.K t->bY (Y.res t k).x=(Y.res t k).x/\bY (Y.res t k).more=(Y.res t k).more
 nx:∀t k,t<=Y.n->k<Y.K t->(Y.R t (k+1)).x=(Y.res t k).x/\fewer (Y.R t (k+1)).l (Y.res t k).l=true/\(Y.R t (k+1)).l.length=(Y.res t k).l.length
 kid:∀t k,t<=Y.n->t≠0->k<Y.K t->(Y.res t k).more=[]
 main:∀k,k<Y.K 0 ->
  ((Y.mn (k+1)=Y.mn k/\(Y.res 0 k).more=[]) \/
   (Y.mn (k+1)=Y.mn k+1/\Y.mn k<=Y.n/\(Y.res 0 k).more=[.agg (Y.R (Y.mn k) 0).x]/\fewer (Y.R (Y.mn k) 0).l (Y.res 0 k).l=true/\(Y.R (Y.mn k) 0).l.length=(Y.res 0 k).l.length /\
    adL (Y.R 0 (k+1)).l (Y.R (Y.mn k) 0).l=true/\vK (Y.R (Y.mn k) 0).x=true/\(Y.R (Y.mn k) 0).x.length=11/\0<Y.K (Y.mn k)))
 mk0:Y.mn 0=1
 mkn:∀k,k<=Y.K 0->Y.mn k<=Y.n+1
 k0:0<Y.K 0
structure Oh (Y:Rws)(P:Nat->Nat)(cn:Nat)(ns xs:List V)(A:Nat->Nat->Nat)(ow:Nat->Nat->Bool):Prop where
 gn:wB ns=true
 wn:bY ns=ns
 wx:bY xs=xs
 len:ns.length<=1+3*tot Y.n P+Y.C.D*cn
 m:xs.length=Y.mn (P 0)
 thc:∀X∈xs,ThC X
 le:∀t,t<=Y.n->P t<=Y.K t
 zero:∀t,xs.length<=t->P t=0
 ats:∀t,t<xs.length->∃X,xs[t]?=some X/\At Y.C.D (A t) (ow t) (Y.R t (P t)) ns X
 dis:∀t u,t<xs.length->u<xs.length->t≠u->Dis (A t) (ow t) (Y.R t (P t)).l (A u) (ow u) (Y.R u (P u)).l
def Ir(Y:Rws)(os:List Nat)(ns:List V)(xs:List V)(c:V):V:=zS Y.C (.list ns false) c xs (oV os)
theorem Dk(os:List Nat):aO (oV os)=true/\fM (oV os)=true/\dV (oV os)=oV os:=by
 have h:∀l:List Nat,aW (l.map jn)=true:=λl=>by induction l with|nil=>rfl|cons a l ih=>simp only[bD,aW,ih,jn,aO,aU]
 have h2:∀l:List Nat,bY (l.map jn)=l.map jn:=λl=>by rw[tX];simp only[aAJ]
 cases os with
 |nil=>exact⟨rfl,rfl,by simp only[oV,dV]⟩
 |cons a os=>exact⟨by simpa only[oV,aO]using h (a::os),rfl,by simp only[oV,dV,h2]⟩
theorem Qz{ρ:V->V}{os:List Nat}(hρ:∀i j k,ρ (.tuple [jn i,jn j,jn k])=pf (aA (Nj (oV os)) i)):∀n i,i+n=os.length->subs ρ (Si i n)=(os.drop i).map jn
 |0,i,h=>by rw[Si,List.drop_eq_nil_of_le (by omega)];simp only[subs,kX]
 |n+1,i,h=>by
  have hi:i<os.length:=by omega
  rw[Si,uM hi,bD,subs,Qz hρ n (i+1) (by omega),sy,nD,hρ];congr 1;have h1:Nj (oV os)=os.map jn:=by cases os<;>rfl
  have h2:(os.map jn)[i]?=some (jn os[i]):=by rw[iW,bV hi];rfl
  rw[h1,kZ h2];exact Ul rfl rfl
theorem arY{ρ:V->V}{os:List Nat}(hρ:∀i j k,ρ (.tuple [jn i,jn j,jn k])=pf (aA (Nj (oV os)) i)):sub ρ (otN os.length)=oV os:=by
 unfold otN;cases os with
 |nil=>simp only[jS,show Nat.beq 0 0=true from rfl,cond_true,sub,oV]
 |cons a os =>
  have:Nat.beq (a::os).length 0=false:=rfl;simp only[this,cond_false,sub,oV];rw[Qz hρ _ 0 (by omega),rG]
theorem arQ(os:List Nat)(v:Nat):oV (os++[v])=.list (os.map jn++[jn v]) false:=by
 cases os with
 |nil=>rfl
 |cons a os=>simp only[dZ,oV,bD,rQ,kX]
variable {Y:Rws}{P:Nat->Nat}{cn:Nat}{os:List Nat}{ns xs:List V}{A:Nat->Nat->Nat}{ow:Nat->Nat->Bool}{c:V}{t:Nat}
theorem alI(hY:wz Y)(hI:Oh Y P cn ns xs A ow)(hcn:cn<=1000)(hc:pf c=c)(hcw:dV c=c)(ht:t<xs.length)(hk:P t<Y.K t)(hob:os.length<=Y.B) :
  ∃nU xs2 A2 D9 rR,EvB 84 [Ir Y os ns xs c,jn t,.int .i64 Y.C.deep] rR/\dV rR=.tuple [Ir Y (os++WY (Y.pr t (P t))) nU xs2 c,(Y.res t (P t)).ev] /\
   Oh Y (upd P t) cn nU xs2 A2 D9/\nX (Y.res t (P t)).ev=true/\Yy (Y.res t (P t)).ev=true/\(∃T:Th,T.ns=ns/\T.σ.length=(Y.R t (P t)).l.length/\nU=T.G (Y.res t (P t)).l):=by
 have hle0:P 0<=Y.K 0:=hI.le 0 (eX _);have hxn:xs.length<=Y.n+1:=by rw[hI.m];exact hY.mkn _ hle0
 have htn:t<=Y.n:=by omega
 have htot:=XF hI.le;have azu:tot Y.n (upd P t)=tot Y.n P+1:=afT htn;obtain⟨X,hX,hA⟩:=hI.ats t ht;have hDc:Y.C.D*cn<=Y.C.D*1000:=Nat.mul_le_mul_left _ hcn;have hroom:ns.length+60<=100000:=by have:=hI.len;have:=hY.room;omega
 have hM:wX (Int.ofNat (ns.length+50)) Y.C.most=true:=by
  have h1:=hY.most;have h2:=hI.len;rw[vH]at h1|-;simp only[decide_eq_true_eq,lJ]at h1|-;omega
 obtain⟨hof,hop,how⟩:=Dk os;have hpo:pf (oV os)=oV os:=Ul hop hof;obtain⟨hw1,hw2⟩:=hY.wk t (P t) htn hk;obtain⟨n1,n2,n3⟩:=hY.nx t (P t) htn hk;have hev:nX (Y.res t (P t)).ev=true/\Yy (Y.res t (P t)).ev=true/\(Y.res t (P t)).l.length<=(Y.R t (P t)).l.length+3/\wU (Y.res t (P t)).l.length (Y.res t (P t)).x=true/\wU (Y.res t (P t)).l.length (Y.res t (P t)).more=true:=by
  cases hp:Y.pr t (P t)with
  |none =>
   have hf:=(hY.st0 t (P t) xs.length htn hk (λh=>by subst h;exact hI.m) (λh=>⟨ht,hxn⟩) hp).1;exact⟨hf.ev.1,hf.ev.2,hf.grow,hf.inx,hf.inm⟩
  |some v =>
   have hf:=hY.st1 t (P t) xs.length v htn hk (λh=>by subst h;exact hI.m) (λh=>⟨ht,hxn⟩) hp 0 (eX _);exact⟨hf.ev.1,hf.ev.2,hf.grow,hf.inx,hf.inm⟩
 obtain⟨hev1,hev2,hgrow,avX,aB5⟩:=hev;have stp:∃(nU:List V) (A2:Nat->Nat) (D9:Nat->Bool),(∀j,j<(Y.R t (P t)).l.length->A2 j=A t j) /\
   (∃rR,EvB 84 [Ir Y os ns xs c,jn t,.int .i64 Y.C.deep] rR/\dV rR=.tuple [zS Y.C (.list nU false) c (xs.set t (.agg (subs (rA A2) (Y.res t (P t)).x))++subs (rA A2) (Y.res t (P t)).more) (oV (os++WY (Y.pr t (P t)))),(Y.res t (P t)).ev]) /\
   wB nU=true/\bY nU=nU/\nU.length=ns.length+((Y.res t (P t)).l.length-(Y.R t (P t)).l.length)/\ThC (.agg (subs (rA A2) (Y.res t (P t)).x))/\dV (.agg (subs (rA A2) (Y.res t (P t)).x))=.agg (subs (rA A2) (Y.res t (P t)).x)/\bY (subs (rA A2) (Y.res t (P t)).more)=subs (rA A2) (Y.res t (P t)).more/\Vw Y.C.D A2 D9 (Y.res t (P t)).l nU /\
   (∀(B:Nat->Nat) (pw:Nat->Bool) (k:List V),Vw Y.C.D B pw k ns->Dis (A t) (ow t) (Y.R t (P t)).l B pw k->Vw Y.C.D B pw k nU/\∀l3,fewer l3 (Y.res t (P t)).l=true->Dis A2 D9 l3 B pw k) /\(∃T:Th,T.ns=ns/\T.σ.length=(Y.R t (P t)).l.length/\nU=T.G (Y.res t (P t)).l):=by
  cases hp:Y.pr t (P t)with
  |none =>
   obtain⟨hf,ho⟩:=hY.st0 t (P t) xs.length htn hk (λh=>by subst h;exact hI.m) (λh=>⟨ht,hxn⟩) hp;refine aaW hY.cst hf hI.gn hroom hM hI.thc rfl hX hA hc hof hcw hI.wn hI.wx hw1 hw2 (fun ρ h1 h2=>?_) (fun ρ h1 h2=>?_)
   .rw[XM,sy,nD,h1,hpo]
   .rw[ho,XM,sy,nD,h1,hpo,how];simp only[WY,iY]
  |some v =>
   have hf:=hY.st1 t (P t) xs.length v htn hk (λh=>by subst h;exact hI.m) (λh=>⟨ht,hxn⟩) hp os.length hob;refine aaW hY.cst hf hI.gn hroom hM hI.thc rfl hX hA hc hof hcw hI.wn hI.wx hw1 hw2 (fun ρ h1 h2=>arY h2) (fun ρ h1 h2=>?_);have h3:=Qz (os:=os) h2 os.length 0 (by omega);rw[rG]at h3;simp only[WY,sub,qY,h3,subs,jn,arQ,dV,rC,tX,bY];rfl
 obtain⟨nU,A2,D9,hA2,⟨rR,hans,hrR⟩,hgn,hwn2,hlen,ag4,hwX,hwM,hvw,hoth,hT⟩:=stp;have aCL:Vw Y.C.D A2 D9 (Y.R t (P t+1)).l nU:=abd hvw n2 n3;have hAt:At Y.C.D A2 D9 (Y.R t (P t+1)) nU (.agg (subs (rA A2) (Y.res t (P t)).x)) :=
  ⟨aCL,by rw[n1],by rw[n1,n3];exact avX⟩
 have hle:∀u,u<=Y.n->upd P t u<=Y.K u:=λu hu=>by
  by_cases hut:u=t
  .subst hut;rw[upd_same];omega
  .rw[upd_ne hut];exact hI.le u hu
 have hlen2:nU.length<=1+3*tot Y.n (upd P t)+Y.C.D*cn:=by
  rw[hlen,azu];have:=hI.len;omega
 have azz:∀(xs2:List V) (u:Nat),u<xs.length->u≠t->(xs.set t (.agg (subs (rA A2) (Y.res t (P t)).x))++xs2)[u]?=xs[u]?:=by
  intro xs2 u hu hut;rw[jf (by simpa using hu),List.getElem?_set_ne (Ne.symm hut)]
 have azA:∀xs2:List V,(xs.set t (.agg (subs (rA A2) (Y.res t (P t)).x))++xs2)[t]?=some (.agg (subs (rA A2) (Y.res t (P t)).x)):=by
  intro xs2;rw[jf (by simpa using ht)];simp[ht]
 have azr:∀X∈xs.set t (.agg (subs (rA A2) (Y.res t (P t)).x)),ThC X:=λX hX=>by
  rcases List.mem_or_eq_of_mem_set hX with h|h
  .exact hI.thc X h
  .subst h;exact ag4
 have hother:∀u,u<xs.length->u≠t->∃X,xs[u]?=some X/\At Y.C.D (A u) (ow u) (Y.R u (P u)) nU X:=by
  intro u hu hut;obtain⟨X,hX,hB⟩:=hI.ats u hu;have h1:=(hoth (A u) (ow u) (Y.R u (P u)).l hB.vw (hI.dis t u ht hu (Ne.symm hut))).1;exact⟨X,hX,h1,hB.x,hB.inx⟩
 have aeS:∀u,u<xs.length->u≠t->∀l3,fewer l3 (Y.res t (P t)).l=true->Dis A2 D9 l3 (A u) (ow u) (Y.R u (P u)).l:=by
  intro u hu hut l3 h3;obtain⟨X,hX,hB⟩:=hI.ats u hu;exact(hoth (A u) (ow u) (Y.R u (P u)).l hB.vw (hI.dis t u ht hu (Ne.symm hut))).2 l3 h3
 have Um:(Y.res t (P t)).more=[]->Y.mn (upd P t 0)=Y.mn (P 0)->∃nU xs2 A2 D9 rR,EvB 84 [Ir Y os ns xs c,jn t,.int .i64 Y.C.deep] rR/\dV rR=.tuple [Ir Y (os++WY (Y.pr t (P t))) nU xs2 c,(Y.res t (P t)).ev] /\
   Oh Y (upd P t) cn nU xs2 A2 D9/\nX (Y.res t (P t)).ev=true/\Yy (Y.res t (P t)).ev=true /\(∃T:Th,T.ns=ns/\T.σ.length=(Y.R t (P t)).l.length/\nU=T.G (Y.res t (P t)).l):=by
  intro hmore hmn;refine⟨nU,xs.set t (.agg (subs (rA A2) (Y.res t (P t)).x)),λu=>if u=t then A2 else A u,λu=>if u=t then D9 else ow u,rR,hans,?_,?_,hev1,hev2,hT⟩
  .rw[hrR,hmore,Fa,iY];rfl
  .have hL:(xs.set t (.agg (subs (rA A2) (Y.res t (P t)).x))).length=xs.length:=by simp
   constructor
   .exact hgn
   .exact hwn2
   .exact Lp _ _ _ hI.wx hwX
   .exact hlen2
   .rw[hL,hmn];exact hI.m
   .exact azr
   .exact hle
   .intro u hu;rw[hL]at hu;rw[upd_ne (by omega)];exact hI.zero u hu
   .intro u hu;rw[hL]at hu;by_cases hut:u=t
    .subst hut;refine⟨_,by have:=azA [];rwa[iY]at this,?_⟩;rw[upd_same,if_pos rfl,if_pos rfl];exact hAt
    .obtain⟨X,hX,hB⟩:=hother u hu hut;refine⟨X,by have:=azz [] u hu hut;rw[iY]at this;rw[this];exact hX,?_⟩;rw[upd_ne hut,if_neg hut,if_neg hut];exact hB
   .intro u v hu hv huv;rw[hL]at hu hv;by_cases hut:u=t
    .subst hut;rw[upd_same,if_pos rfl,if_pos rfl,upd_ne (Ne.symm huv),if_neg (Ne.symm huv),if_neg (Ne.symm huv)];exact aeS v hv (Ne.symm huv) _ n2
    .rw[upd_ne hut,if_neg hut,if_neg hut];by_cases hvt:v=t
     .subst hvt;rw[upd_same,if_pos rfl,if_pos rfl];exact(aeS u hu hut _ n2).symm
     .rw[upd_ne hvt,if_neg hvt,if_neg hvt];exact hI.dis u v hu hv huv
 by_cases h0:t=0
 .subst h0;rcases hY.main (P 0) hk with⟨h1,h2⟩|⟨h1,h2,h3,h5,h6,h7,h8,h9,h10⟩
  .exact Um h2 (by rw[upd_same];exact h1)
  .have hi:Y.mn (P 0)=xs.length:=hI.m.symm;rw[hi]at h1 h2 h3 h5 h6 h7 h8 h9 h10;have hPi:P xs.length=0:=hI.zero xs.length (aJ _);have aCA:ThC (.agg (subs (rA A2) (Y.R xs.length 0).x)):=⟨_,rfl,by rw[iQ];exact h9,Dp h8⟩;have aBW:Vw Y.C.D A2 D9 (Y.R xs.length 0).l nU:=abd hvw h5 h6;have ay6:wU (Y.res 0 (P 0)).l.length (Y.R xs.length 0).x=true:=by
    have:=aB5;rw[h3]at this;simpa[wU,yA]using this
   have aBV:At Y.C.D A2 D9 (Y.R xs.length 0) nU (.agg (subs (rA A2) (Y.R xs.length 0).x)):=⟨aBW,rfl,by rw[h6];exact ay6⟩;have hsep:Dis A2 D9 (Y.R 0 (P 0+1)).l A2 D9 (Y.R xs.length 0).l:=by
    intro i j v u g1 g2 o1 g3 g4 o2 g5;have f1:=uP n2 i v g1 g2;have f2:=uP h5 j u g3 g4;have:=hvw.inj i j v u f1 g2 o1 f2 g4 o2 g5;subst this;exact aaw h7 i v u g1 g2 g3 g4
   have e1:subs (rA A2) [V.agg (Y.R xs.length 0).x]=[.agg (subs (rA A2) (Y.R xs.length 0).x)]:=by simp only[subs,sub]
   refine⟨nU,xs.set 0 (.agg (subs (rA A2) (Y.res 0 (P 0)).x))++[V.agg (subs (rA A2) (Y.R xs.length 0).x)],λu=>if u=0\/u=xs.length then A2 else A u,λu=>if u=0\/u=xs.length then D9 else ow u,rR,hans,?_,?_,hev1,hev2,hT⟩
   .rw[hrR,h3,e1];rfl
   .have hL:(xs.set 0 (.agg (subs (rA A2) (Y.res 0 (P 0)).x))++[V.agg (subs (rA A2) (Y.R xs.length 0).x)]).length=xs.length+1:=by simp
    have hlast:(xs.set 0 (.agg (subs (rA A2) (Y.res 0 (P 0)).x))++[V.agg (subs (rA A2) (Y.R xs.length 0).x)])[xs.length]?=some (.agg (subs (rA A2) (Y.R xs.length 0).x)):=by
     rw[rE (by simp)];simp
    have hz:upd P 0 xs.length=0:=by rw[upd_ne (by omega)];exact hPi
    constructor
    .exact hgn
    .exact hwn2
    .rw[rC,Lp _ _ _ hI.wx hwX];have:=hwM;rw[h3,e1]at this;rw[this]
    .exact hlen2
    .rw[hL,upd_same,h1]
    .intro X hX;rcases dH.1 hX with h|h
     .exact azr X h
     .simp at h;subst h;exact aCA
    .exact hle
    .intro u hu;rw[hL]at hu;rw[upd_ne (by omega)];exact hI.zero u (by omega)
    .intro u hu;rw[hL]at hu;by_cases hu0:u=0
     .subst hu0;refine⟨_,azA _,?_⟩;rw[upd_same,if_pos (.inl rfl),if_pos (.inl rfl)];exact hAt
     .by_cases hul:u=xs.length
      .subst hul;refine⟨_,hlast,?_⟩;rw[hz,if_pos (.inr rfl),if_pos (.inr rfl)];exact aBV
      .have hu1:u<xs.length:=by omega
       obtain⟨X,hX,hB⟩:=hother u hu1 hu0;refine⟨X,by rw[azz _ u hu1 hu0];exact hX,?_⟩;rw[upd_ne hu0,if_neg (by omega),if_neg (by omega)];exact hB
    .have key:∀u v,u<xs.length+1->v<xs.length+1->u<v->Dis (if u=0\/u=xs.length then A2 else A u) (if u=0\/u=xs.length then D9 else ow u) (Y.R u (upd P 0 u)).l (if v=0\/v=xs.length then A2 else A v) (if v=0\/v=xs.length then D9 else ow v) (Y.R v (upd P 0 v)).l:=by
      intro u v hu hv huv;by_cases hu0:u=0
      .subst hu0;rw[upd_same,if_pos (.inl rfl),if_pos (.inl rfl)];by_cases hvl:v=xs.length
       .subst hvl;rw[hz,if_pos (.inr rfl),if_pos (.inr rfl)];exact hsep
       .rw[upd_ne (by omega),if_neg (by omega),if_neg (by omega)];exact aeS v (by omega) (by omega) _ n2
      .rw[upd_ne hu0,if_neg (by omega),if_neg (by omega)];by_cases hvl:v=xs.length
       .subst hvl;rw[hz,if_pos (.inr rfl),if_pos (.inr rfl)];exact(aeS u (by omega) hu0 _ h5).symm
       .rw[upd_ne (by omega),if_neg (by omega),if_neg (by omega)];exact hI.dis u v (by omega) (by omega) (by omega)
     intro u v hu hv huv;rw[hL]at hu hv;rcases Nat.lt_or_gt_of_ne huv with h|h
     .exact key u v hu hv h
     .exact(key v u hv hu h).symm
 .exact Um (hY.kid t (P t) htn h0 hk) (by rw[upd_ne (Ne.symm h0)])
end
section
variable {ns:List V}{e:Bool}{most:Nat}
theorem apS(hg:wB ns=true)(hl:ns.length<=most)(hm:most<=5000)(hv:∀v∈ns,vJ [v,jn ns.length]=some (.bool true)):Ans 189 [.agg [.list ns e,jn most]] (.bool true):=by
 obtain⟨hn,hf⟩:=zy hg;obtain⟨N,g,hr⟩:=apT (mm:=Jj) (h:=emp) (e:=e) (most:=most) rfl rfl rfl rfl hl hm (λv h=>by
  obtain⟨k,n,nm,ks,m,js,h1,h2,h3,h4⟩:=Ji (hv v h);simp only[gu,and_true]at h1;refine⟨.int .i64 k,.int .i64 n,.str nm,ks,h1.1,?_,?_⟩
  .have hk:=mZ h3;generalize js.length=L at hk;cases hk<;>rfl
  .exact hv v h)
 exact XW (Tab.pY Qi) (hr 0) (by simp only[aW,aO,hf,jn,aU]) rfl
def apR(ns:List V)(e:Bool)(most:Nat)(args:List V):Option V:=@ite _ (args=[.agg [.list ns e,jn most]]) (Classical.propDecidable _) (some (.bool true)) none
theorem agv:apR ns e most [.agg [.list ns e,jn most]]=some (.bool true):=if_pos rfl
def mmG(ns:List V)(e:Bool)(most:Nat):eF:=λf=>bif Nat.beq f 88 then some ⟨atS⟩else bif Nat.beq f 189 then some ⟨apR ns e most⟩else none
theorem awI(hg:wB ns=true)(hl:ns.length<=most)(hm:most<=5000)(hv:∀v∈ns,vJ [v,jn ns.length]=some (.bool true)):qN Go.Proofs.Tryz.prog vZ (mmG ns e most):=λf args v h=>by
 unfold ay mmG at h;cases h1:Nat.beq f 88 with
 |true=>rw[h1]at h;rw[aP h1];exact ajJ h
 |false =>
  rw[h1]at h;cases h2:Nat.beq f 189 with
  |true =>
   rw[h2]at h;rw[aP h2];replace h:apR ns e most args=some v:=h;unfold apR at h
   split at h
   .rename_i ha;cases h;rw[ha];exact apS hg hl hm hv
   .cases h
  |false=>rw[h2]at h;cases h
theorem arJ:auY (mmG ns e most):=by
 refine⟨⟨?_,?_,?_,?_,?_,?_⟩,?_,?_,?_,?_,?_,?_,?_,?_,?_,?_⟩<;>rfl
theorem arI:ay (mmG ns e most) 189 [.agg [.list ns e,jn most]]=some (.bool true):=by
 exact agv
theorem awH(args:List V):ay (mmG ns e most) 88 args=atS args:=rfl
def endOf(ns:List V):Nat->Nat->Option Nat
 |0,_=>none
 |f+1,i=>match skip i ns with
  |[]=>none
  |v::_=>match gV v with
   |none=>none
   |some (k,_,_,ks)=>bif sK k (Int.ofNat 6)then(match DK ks with|some b=>endOf ns f b|none=>none)else some i
def tJ(ns:List V)(q:Nat):Int×Int×List Nat×V:=(gV (aA ns q)).getD (0,0,[],.aj)
def EG(ns:List V)(q:Nat):List Nat:=(iT 1000000000 (tJ ns q).2.2.2).getD []
def amB(ns:List V)(q:Nat):Bool:=match(tJ ns q).2.2.2 with|.aj=>true|_=>false
theorem abJ(ks:V):dU ks=.aj<->(match ks with|.aj=>true|_=>false)=true:=by
 cases ks<;>first|(simp[dU];done)|skip
 rename_i xs e;cases xs<;>simp[dU]
theorem rZ{m:Nat}{ks:V}{js:List Nat}(h:iT m ks=some js):js.length<=8/\(∀j∈js,j<m)/\(dU ks=.aj/\js=[]\/∃e,dU ks=.list (js.map jn) e):=by
 cases ks<;>first|(cases h;done)|skip
 .cases h;exact⟨by simp,λj hj=>by simp at hj,.inl ⟨rfl,rfl⟩⟩
 .rename_i xs e;simp only[iT]at h;cases h1:zG xs with
  |none=>rw[h1]at h;cases h
  |some RF =>
   rw[h1]at h;dsimp only at h;cases hb:Nat.ble RF.length 8&&pR m RF with
   |false=>rw[hb]at h;cases h
   |true =>
    rw[hb]at h;cases h;simp only[ah,jg]at hb;refine⟨hb.1,?_,.inr ?_⟩
    .have ha:=hb.2;clear hb h1
     induction js with
     |nil=>intro j hj;simp at hj
     |cons a js ih =>
      simp only[pR,ah]at ha;intro j hj;rcases bU.1 hj with rfl|hj
      .exact jA ha.1
      .exact ih ha.2 j hj
    .have:=Aj h1;subst this;cases js with
     |nil=>exact⟨_,rfl⟩
     |cons a js=>exact⟨_,rfl⟩
theorem TN{l rest:List V}{i:Nat}{v:V}(h:skip i l=v::rest):aA l i=v:=by
 have h1:=(qM h).2;exact kZ h1
theorem IV:∀{f p:Nat} {v:V},JO ns f p=some v->∃q js,endOf ns f p=some q/\q<ns.length/\iT 1000000000 (tJ ns q).2.2.2=some js/\gV (aA ns q)=some (tJ ns q)/\v=.tuple [nd (tJ ns q).1 (tJ ns q).2.1 (tJ ns q).2.2.1 (dU (tJ ns q).2.2.2),jn q,jn 0]
 |0,p,v,h=>by cases h
 |f+1,p,v,h=>by
  obtain⟨k,n,nm,ks,rest,hs,hc⟩:=NI h;rcases hc with⟨h6,rfl,js,hk⟩|⟨rfl,b,e1,rfl,h⟩
  .have hn:tJ ns p=(k,n,nm,ks):=by unfold tJ;rw[TN hs,eG];rfl
   refine⟨p,js,?_,jA (qM hs).1,by rw[hn];exact hk,by rw[hn,TN hs,eG],by rw[hn];rfl⟩;simp only[endOf,hs,eG,h6,cond_false]
  .obtain⟨q,js,h1,h2⟩:=IV h;refine⟨q,js,?_,h2⟩;have:DK (.list [.int .i64 (.ofNat b)] e1)=some b:=rfl;simp only[endOf,hs,eG,show sK 6 (Int.ofNat 6)=true from rfl,cond_true,this];exact h1
def endP(ns:List V)(p:Nat):Nat:=(endOf ns 3 p).getD 0
theorem avP{R:Nat->Prop}(hg:wB ns=true)(hl:ns.length<=100000)(hR:∀p,R p->∃v,JO ns 3 p=some v)(hk:∀p,R p->∀j∈EG ns (endP ns p),R j) :
  GcW (mmG ns e most) [.list ns e,jn most] R (endP ns) (λq=>(tJ ns q).1) (λq=>(tJ ns q).2.1) (λq=>(tJ ns q).2.2.1) (EG ns) (amB ns) where
 at_ p hp:=by
  obtain⟨v,hv⟩:=hR p hp;obtain⟨q,js,h1,h2,h3,h4,rfl⟩:=IV hv;have hq:endP ns p=q:=by unfold endP;rw[h1];rfl
  have hj:EG ns q=js:=by unfold EG;rw[h3];rfl
  rw[hq,hj];refine⟨_,?_,(rZ h3).2.2,abJ _⟩;rw[awH];have hh:AB (.agg [.list ns e,jn most])=some (ns,Int.ofNat most):=rfl;have hn:jw (jn p)=some p:=rfl;simp only[atS,hh,hn,hg,dO hl,aU,cond_true];exact hv
 kids:=hk
theorem aeD{p:Nat}{v:V}(h:JO ns 3 p=some v):endP ns p<ns.length:=by
 obtain⟨q,js,h1,h2,_⟩:=IV h;unfold endP;rw[h1];exact h2
theorem alW(q:Nat):(EG ns q).length<=1000:=by
 unfold EG;cases h:iT 1000000000 (tJ ns q).2.2.2 with
 |none=>simp
 |some js=>have:=(rZ h).1;simp;omega
end
section
variable {ns:List V}{e:Bool}{most D:Nat}{R:Nat->Prop}
theorem ZR{nk nn:Nat->Int}{nm:Nat->List Nat}:∀(o:List Nat) (us:List V),(∀w∈us,aO w=true)->aW (uY nk nn nm o us)=true
 |[],us,h=>by cases us<;>rfl
 |q::o,[],h=>rfl
 |q::o,u::us,h=>by
  have h1:=h u bZ;have h2:=ZR (nk:=nk) (nn:=nn) (nm:=nm) o us (λw hw=>h w (bW _ hw));simp only[uY,aW,nd,aO,h1,h2,aU]
theorem YM(a b:List V):aW (a++b)=(aW a&&aW b):=by
 induction a with
 |nil=>rfl
 |cons x a ih=>simp only[dZ,aW,ih,Bool.and_assoc]
theorem Vh(b:Bool)(l:List Nat):aO (eV b l)=true:=by cases b<;>first|rfl|exact FV l
theorem Po:∀fs:List Ls,aW (fs.map DX)=true
 |[]=>rfl
 |f::fs=>by simp only[bD,aW,DX,aO,Vh,jn,Po fs,aU]
theorem PY:∀fs:List (Nat×Nat),aW (fs.map AY)=true
 |[]=>rfl
 |f::fs=>by simp only[bD,aW,AY,aO,jn,PY fs,aU]
theorem N7{b:Bool}{l:List V}(h:aW l=true):aO (sV b l)=true:=by cases b<;>first|rfl|exact h
theorem aa3:∀ts:List AV,aW (ts.map yP)=true
 |[]=>rfl
 |t::ts=>by simp only[bD,aW,yP,aO,Vh,N7 (Po t.st),N7 (PY t.ko),jn,aa3 ts,aU]
theorem ap6{C:Cst}{ts:List AV}{ds:List V}{ed:Bool}{c o:V}(Tv:C.defs=.list ds ed)(Ez:C.most=Int.ofNat most)(hds:ds.length=D)(hts:ts≠[])(htl:ts.length<=1000)(hB:∀t∈ts,ThB t)(hK:(mO ts).length<=800000)(hD:D<=1000)
  (hg:wB ns=true) (hl:ns.length<=most) (hm:most<=5000) (hv:∀v∈ns,vJ [v,jn ns.length]=some (.bool true))
  (hR:∀p∈List.range D++mO ts,R p) (hat:∀p,R p->∃v,JO ns 3 p=some v) (hkk:∀p,R p->∀j∈EG ns (endP ns p),R j) (hne:List.range D++mO ts≠[])
  (hM:∀o:List Nat,o.Nodup->(∀q∈o,∃p,R p/\q=endP ns p)->o.length+D<=most)
  (hc4:NoC c) (f0:aO C.ops=true) (f1:aW ds=true) (f8:aO o=true) (o0:qW C.ops=true) (o8:qW o=true) :
  ∃(od:List Nat) (us:List V),EvA (mmG ns e most) Tab.fns 28 [zS C (.list ns e) c (ts.map yP) o]
    (.tuple [zS C (.list (inds (UK ((List.range D++mO ts).map λp=>od.idxOf (endP ns p)) D) 0 D++uY (λq=>(tJ ns q).1) (λq=>(tJ ns q).2.1) (λq=>(tJ ns q).2.2.1) od us) false) (.list [] true) (Dx (UK ((List.range D++mO ts).map λp=>od.idxOf (endP ns p)) D) D ts) o,.bool true]) /\
   us.length=od.length/\(∀(j:Nat) w q,us[j]?=some w->od[j]?=some q->KN (amB ns q) w ((EG ns q).map λp=>od.idxOf (endP ns p)+D))/\od.Nodup/\(∀q∈od,∃p,R p/\q=endP ns p)/\(∀p∈List.range D++mO ts,endP ns p∈od)/\∀q∈od,∀p∈EG ns q,endP ns p∈od:=by
 obtain⟨hn,hf⟩:=zy hg;obtain⟨od,us,N,g,h1,h2,h3,h4,h5,h6,h7⟩:=ap9 (mm:=mmG ns e most) (h:=emp) (D:=D) (most:=most) (w0:=C.ops) (w4:=c) (w6:=.aj) (w8:=o) (a2:=.list ns e) (ver:=Int.ofNat 0) (e:=ed) (e7:=false) arJ hds hts htl hB hK hD
  (avP hg (by omega) hat hkk) alW arI hR (λp hp=>by obtain⟨v,hv⟩:=hat p hp;have:=aeD hv;omega) hne (by omega) hM hc4 ⟨rfl,rfl,rfl,rfl⟩ f0 f1 rfl f8 o0 rfl o8
 refine⟨od,us,?_,h2,λj w q hw hq=>(h3 j w q hw hq).1,h4,h5,h6,h7⟩;have hW:zS C (.list ns e) c (ts.map yP) o=.agg [C.ops,.list ds ed,.list ns e,jn most,c,.int .i64 (Int.ofNat 0),.aj,.list (ts.map yP) false,o]:=by
  unfold zS jn;rw[Tv,Ez]
 rw[hW];have hW2:∀(xs:List V) (hp cc:V),zS C hp cc xs o=.agg [C.ops,.list ds ed,hp,jn most,cc,.int .i64 (Int.ofNat 0),.aj,.list xs false,o]:=λxs hp cc=>by
  unfold zS jn;rw[Tv,Ez]
 rw[hW2];have hfu:∀w∈us,aO w=true:=λw hw=>by
  obtain⟨j,hj,rfl⟩:=List.mem_iff_getElem.1 hw;have hjo:j<od.length:=by omega
  exact(h3 j _ _ (bV hj) (bV hjo)).2
 have hcf:aO c=true:=by rcases hc4 with rfl|⟨e,rfl⟩<;>rfl
 refine⟨?_,?_,N,λm hm=>?_⟩
 .simp only[aW,aO,f0,f1,hf,hcf,f8,aa3,jn,aU]
 .simp only[aW,aO,f0,f1,f8,YM,Kw,ZR od us hfu,(XE ts D).2,jn,aU]
 .obtain⟨q,rfl⟩:∃q,m=N+q:=⟨m-N,by omega⟩;exact⟨g,h1 q⟩
end
section
def exN(b:Bool)(js:List Nat):V:=bif b then .aj else .list (js.map ad) false
def frN(f:Ls):V:=.agg [jn f.k,if f.k=1\/f.k=2 then ad f.at_ else jn f.at_,.int .i64 f.op,.str f.nm,.int .i64 f.n,exN f.nil f.env]
def koN(f:Nat×Nat):V:=.agg [jn f.1,bif koB f then ad f.2 else jn f.2]
def thN(t:AV):List V:=[jn t.kind,.int .i64 t.op,exN t.nE t.env,bif Nz t then ad t.at_ else jn t.at_,sV t.nS (t.st.map frN),sV t.nK (t.ko.map koN),.aj,.aj,bif Nat.beq t.kind 3 then ad t.at2 else jn t.at2,.int .i64 t.fail,.int .i64 t.n]
def XK(A:Nat->Nat)(f:Ls):Ls:=⟨f.k,if f.k=1\/f.k=2 then A f.at_ else f.at_,f.op,f.nm,f.n,f.nil,f.env.map A,λh=>by rw[f.hn h];rfl⟩
def mpK(A:Nat->Nat)(f:Nat×Nat):Nat×Nat:=(f.1,bif koB f then A f.2 else f.2)
def BJ(A:Nat->Nat)(t:AV):AV :=
 ⟨t.kind,t.op,t.nE,t.env.map A,bif Nz t then A t.at_ else t.at_,t.nS,t.st.map (XK A),t.nK,t.ko.map (mpK A),bif Nat.beq t.kind 3 then A t.at2 else t.at2,t.fail,t.n,λh=>by rw[t.hE h];rfl,λh=>by rw[t.hS h];rfl,λh=>by rw[t.hK h];rfl⟩
variable {A A2:Nat->Nat}{res:Nat->Nat->Nat}
theorem MC(j:Nat):sub (rA A) (ad j)=jn (A j):=by rw[show ad j=sy (.int .i64 (.ofNat j))from rfl,sy,nD];rfl
theorem JD:∀js:List Nat,subs (rA A) (js.map ad)=(js.map A).map jn
 |[]=>rfl
 |j::js=>by simp only[bD,subs,MC,JD js]
theorem XC(b:Bool)(js:List Nat):sub (rA A) (exN b js)=eV b (js.map A):=by
 cases b with
 |true=>rfl
 |false=>simp only[exN,eV,cond_false,sub,JD]
theorem Io(j:Nat):sub (rA A) (jn j)=jn j:=by simp only[jn,sub]
theorem asR(f:Ls):sub (rA A) (frN f)=DX (XK A f):=by
 unfold frN DX XK;by_cases h:f.k=1\/f.k=2
 .simp only[if_pos h,sub,subs,Io,MC,XC]
 .simp only[if_neg h,sub,subs,Io,XC]
theorem aaU:∀fs:List Ls,subs (rA A) (fs.map frN)=(fs.map (XK A)).map DX
 |[]=>rfl
 |f::fs=>by simp only[bD,subs,asR,aaU fs]
theorem asT(f:Nat×Nat):sub (rA A) (koN f)=AY (mpK A f):=by
 unfold koN AY mpK;cases koB f with
 |true=>simp only[cond_true,sub,subs,Io,MC]
 |false=>simp only[cond_false,sub,subs,Io]
theorem aaV:∀fs:List (Nat×Nat),subs (rA A) (fs.map koN)=(fs.map (mpK A)).map AY
 |[]=>rfl
 |f::fs=>by simp only[bD,subs,asT,aaV fs]
theorem axu(b:Bool)(l:List V):sub (rA A) (sV b l)=sV b (subs (rA A) l):=by cases b<;>simp only[sV,cond_true,cond_false,sub]
theorem afJ(t:AV):.agg (subs (rA A) (thN t))=yP (BJ A t):=by
 unfold thN yP BJ;have h1:sub (rA A) (bif Nz t then ad t.at_ else jn t.at_)=jn (bif Nz t then A t.at_ else t.at_):=by
  cases Nz t with
  |true=>simp only[cond_true,MC]
  |false=>simp only[cond_false,Io]
 have h2:sub (rA A) (bif Nat.beq t.kind 3 then ad t.at2 else jn t.at2)=jn (bif Nat.beq t.kind 3 then A t.at2 else t.at2):=by
  cases Nat.beq t.kind 3 with
  |true=>simp only[cond_true,MC]
  |false=>simp only[cond_false,Io]
 simp only[subs,Io,XC,h1,h2,axu,aaU,aaV,sub]
theorem auE(f:Ls):pu (XK A f)=(pu f).map A:=by
 unfold pu XK;by_cases h:f.k=1\/f.k=2
 .simp only[if_pos h,bD,kX]
 .simp only[if_neg h,kX]
theorem ak2(f:Ls):VD (XK A f)=(VD f).map A:=by
 unfold VD;rw[auE,rQ];rfl
theorem VE:∀fs:List Ls,wQ (fs.map (XK A))=(wQ fs).map A
 |[]=>rfl
 |f::fs=>by simp only[bD,wQ,ak2,VE fs,rQ]
theorem awl(f:Nat×Nat):koB (mpK A f)=koB f:=rfl
theorem ac0(f:Nat×Nat):XJ (mpK A f)=(XJ f).map A:=by
 unfold XJ;rw[awl];unfold mpK;cases koB f<;>rfl
theorem ae4:∀fs:List (Nat×Nat),Gz (fs.map (mpK A))=(Gz fs).map A
 |[]=>rfl
 |f::fs=>by simp only[bD,Gz,ac0,ae4 fs,rQ]
theorem ajH(t:AV):Nz (BJ A t)=Nz t:=rfl
theorem aul(t:AV):hp (BJ A t)=(hp t).map A:=by
 unfold hp;rw[ajH];unfold BJ;cases h3:Nat.beq t.kind 3 with
 |true=>simp only[cond_true,bD,kX]
 |false =>
  simp only[cond_false];cases Nz t<;>rfl
theorem Rh(t:AV):G7 (BJ A t)=(G7 t).map A:=by
 unfold G7;rw[aul,rQ,rQ,rQ,<- VE,<- ae4];rfl
def Tks(res:Nat->Nat->Nat)(A2:Nat->Nat)(c:Nat)(js:List Nat):Prop:=∀(k j:Nat),js[k]?=some j->∀x,res (c+k) x=A2 j
theorem Tks.left{c:Nat}{a b:List Nat}(h:Tks res A2 c (a++b)):Tks res A2 c a:=λk j hk=>h k j (by rw[jf (fB.1 hk).1];exact hk)
theorem Tks.right{c:Nat}{a b:List Nat}(h:Tks res A2 c (a++b)):Tks res A2 (c+a.length) b:=λk j hk x=>by
 have:=h (a.length+k) j (by rw[rE (by omega),Nat.add_sub_cancel_left];exact hk) x;rw[<- gq]at this;exact this
theorem JH:∀(js:List Nat) (c:Nat),Tks res A2 c js->MR res c (js.map A)=js.map A2
 |[],c,h=>rfl
 |j::js,c,h=>by
  have h0:=h 0 j rfl (A j);have h1:Tks res A2 (c+1) js:=λk i hk x=>by
   have:=h (k+1) i (by simpa using hk) x;rw[show c+1+k=c+(k+1) by omega];exact this
  simp only[bD,MR,JH js (c+1) h1];rw[show res c (A j)=A2 j from h0]
theorem auT(b:Bool)(js:List Nat):dV (aV b js)=dV (eV b js):=by
 cases b with
 |true=>rfl
 |false=>cases js<;>simp only[aV,eV,cond_false,cond_true,List.isEmpty,dV,kX]
theorem auV(b:Bool)(l l2:List V)(h:bY l=bY l2):dV (rS b l)=dV (sV b l2):=by
 cases b with
 |true=>rfl
 |false=>cases l<;>simp only[rS,sV,cond_false,cond_true,List.isEmpty,dV,h]
theorem axM(f:Ls)(c:Nat)(h:Tks res A2 c (VD f)):dV (NH res c (XK A f))=dV (DX (XK A2 f)):=by
 unfold NH DX;have h1:=JH (A:=A) (pu f) c h.left;have h2:=JH (A:=A) f.env _ h.right;rw[auE,h1,jo,show(XK A f).env=f.env.map A from rfl,h2];have h3:hdD ((pu f).map A2) (XK A f).at_=(XK A2 f).at_:=by
  unfold pu XK;by_cases hk:f.k=1\/f.k=2
  .simp only[if_pos hk,bD,hdD]
  .simp only[if_neg hk,kX,hdD]
 rw[h3];simp only[dV,bY,auT];rfl
theorem af7:∀(fs:List Ls) (c:Nat),Tks res A2 c (wQ fs)->bY (AA res c (fs.map (XK A)))=bY ((fs.map (XK A2)).map DX)
 |[],c,h=>rfl
 |f::fs,c,h=>by
  simp only[bD,AA,bY,axM f c h.left];rw[ak2,jo,af7 fs _ h.right]
theorem axN(f:Nat×Nat)(c:Nat)(h:Tks res A2 c (XJ f)):koR res c (mpK A f)=AY (mpK A2 f):=by
 unfold koR AY;have h1:=JH (A:=A) (XJ f) c h;rw[ac0,h1];unfold XJ mpK;cases koB f<;>rfl
theorem af9:∀(fs:List (Nat×Nat)) (c:Nat),Tks res A2 c (Gz fs)->AL res c (fs.map (mpK A))=(fs.map (mpK A2)).map AY
 |[],c,h=>rfl
 |f::fs,c,h=>by
  simp only[bD,AL,axN f c h.left];rw[ac0,jo,af9 fs _ h.right]
theorem axO(t:AV)(c:Nat)(h:Tks res A2 c (G7 t)):dV (thR res c (BJ A t))=dV (yP (BJ A2 t)):=by
 have ha:=h.left;have hb:=h.right.left;have hc:=h.right.right.left;have hd:=h.right.right.right;have e1:=JH (A:=A) t.env _ hb;have e2:=af7 (A:=A) t.st _ hc;have e3:=af9 (A:=A) t.ko _ hd;have hl:(hp (BJ A t)).length=(hp t).length:=by rw[aul,jo]
 have hl2:(wQ (BJ A t).st).length=(wQ t.st).length:=by
  show(wQ (t.st.map (XK A))).length=_;rw[VE,jo]
 have hl3:(BJ A t).env.length=t.env.length:=by
  show(t.env.map A).length=_;rw[jo]
 unfold thR;rw[hl,hl2,hl3,show(BJ A t).env=t.env.map A from rfl,e1,show(BJ A t).st=t.st.map (XK A)from rfl,show(BJ A t).ko=t.ko.map (mpK A)from rfl,e3,ajH];unfold yP;have h1:(bif Nz t then res c (BJ A t).at_ else(BJ A t).at_)=(BJ A2 t).at_:=by
  show(bif Nz t then res c (BJ A t).at_ else(bif Nz t then A t.at_ else t.at_))=(bif Nz t then A2 t.at_ else t.at_);cases hq:Nz t with
  |false=>rfl
  |true =>
   have h3:Nat.beq t.kind 3=false:=by
    unfold Nz at hq;simp only[ah,fQ]at hq;exact hq.1
   have hh:hp t=[t.at_]:=by unfold hp;rw[h3,hq];rfl
   rw[hh]at ha;exact ha 0 t.at_ rfl _
 have h2:(bif Nat.beq (BJ A t).kind 3 then res c (BJ A t).at2 else(BJ A t).at2)=(BJ A2 t).at2:=by
  show(bif Nat.beq t.kind 3 then res c (BJ A t).at2 else(bif Nat.beq t.kind 3 then A t.at2 else t.at2))=(bif Nat.beq t.kind 3 then A2 t.at2 else t.at2);cases hq:Nat.beq t.kind 3 with
  |false=>rfl
  |true =>
   have hh:hp t=[t.at2]:=by unfold hp;rw[hq];rfl
   rw[hh]at ha;exact ha 0 t.at2 rfl _
 rw[h1,h2];simp only[dV,bY,auT,auV _ _ _ e2,auV _ _ _ rfl];rfl
end
section
def aqR(ks:V):Option Nat:=match ks with
 |.list xs _=>(match xs with|[x]=>Hl x|_=>none)
 |_=>none
theorem ag7{ks:V}{b:Nat}(h:aqR ks=some b):∃e,ks=.list [ad b] e:=by
 cases ks<;>first|(cases h;done)|skip
 rename_i xs e
 match xs,h with
 |[x],h=>exact⟨e,by rw[Ba h]⟩
 |[],h=>cases h
 |_::_::_,h=>cases h
def kU(l:List V):Nat->Nat->Option Nat
 |0,_=>none
 |f+1,j=>match skip j l with
  |[]=>none
  |v::_=>match gV v with
   |none=>none
   |some (k,_,_,ks)=>bif sK k (Int.ofNat 6)then(match aqR ks with|some b=>kU l f b|none=>none)else some j
theorem IG{l:List V}{f j q:Nat}(h:kU l (f+1) j=some q):∃k n nm ks,l[j]?=some (nd k n nm ks)/\((sK k (Int.ofNat 6)=false/\q=j)\/(k=6/\∃b e,ks=.list [ad b] e/\kU l f b=some q)):=by
 simp only[kU]at h;cases h1:skip j l with
 |nil=>rw[h1]at h;cases h
 |cons v rest =>
  rw[h1]at h;dsimp only at h;cases h2:gV v with
  |none=>rw[h2]at h;cases h
  |some p =>
   obtain⟨k,n,nm,ks⟩:=p;rw[h2]at h;dsimp only at h;refine⟨k,n,nm,ks,by rw[(qM h1).2,jV h2],?_⟩;cases h3:sK k (Int.ofNat 6)with
   |false=>rw[h3]at h;cases h;exact .inl ⟨rfl,rfl⟩
   |true =>
    rw[h3]at h;simp only[cond_true]at h;have hk:k=6:=by rw[uo]at h3;simpa using h3
    cases h4:aqR ks with
    |none=>rw[h4]at h;cases h
    |some b=>rw[h4]at h;obtain⟨e,he⟩:=ag7 h4;exact .inr ⟨hk,b,e,he,h⟩
theorem VO:∀{ns:List V} {i:Nat} {v:V},wB ns=true->ns[i]?=some v->RP v=true
 |[],i,v,_,h=>by simp at h
 |w::ns,0,v,hg,h=>by simp only[wB,ah]at hg;simp at h;subst h;exact hg.1
 |w::ns,i+1,v,hg,h=>by simp only[wB,ah]at hg;exact VO hg.2 (by simpa using h)
variable {D:Nat}{A:Nat->Nat}{ow:Nat->Bool}{l ns:List V}
theorem qF(hv:Vw D A ow l ns)(hg:wB ns=true):∀{f j q:Nat},kU l f j=some q->∀F,f<=F ->
  (∃v,JO ns F (A j)=some v)/\endOf ns F (A j)=some (A q)/\ow q=true/\∃k n nm ks,l[q]?=some (nd k n nm ks)/\sK k (Int.ofNat 6)=false/\ns[A q]?=some (nd k n nm (sub (rA A) ks))
 |0,j,q,h,F,hF=>by cases h
 |f+1,j,q,h,F,hF=>by
  obtain⟨k,n,nm,ks,hl,hc⟩:=IG h;obtain⟨h1,h2,h3⟩:=hv.node j _ hl (Ql _ _ _ _);obtain⟨F2,rfl⟩:∃F2,F=F2+1:=⟨F-1,by omega⟩;rcases hc with⟨h6,rfl⟩|⟨rfl,b,e,rfl,hb⟩
  .rcases h3 with⟨ho,hn⟩|⟨_,n2,nm2,b2,e2,hh,_⟩
   .rw[yw]at hn;obtain⟨rest,hs⟩:=lD hn;have hgn:=VO hg hn;unfold RP at hgn;rw[eG]at hgn;dsimp only at hgn;refine⟨?_,?_,ho,k,n,nm,ks,hl,h6,hn⟩
    .cases hk:iT 1000000000 (sub (rA A) ks)with
     |none=>rw[hk]at hgn;cases hgn
     |some js=>exact⟨_,by simp only[JO,hs,eG,h6,cond_false,hk];rfl⟩
    .simp only[endOf,hs,eG,h6,cond_false]
   .simp only[nd,V.agg.injEq,gu,V.int.injEq]at hh;rw[hh.1.2]at h6;cases h6
  .rcases h3 with⟨ho,hn⟩|⟨_,n2,nm2,b2,e2,hh,hab⟩
   .rw[yw]at hn;have hsub:sub (rA A) (.list [ad b] e)=.list [jn (A b)] e:=by simp only[sub,subs,MC]
    rw[hsub]at hn;obtain⟨rest,hs⟩:=lD hn;obtain⟨⟨v,c1⟩,c2,c3⟩:=qF hv hg hb F2 (by omega);have hi:DK (.list [jn (A b)] e)=some (A b):=rfl;refine⟨⟨v,?_⟩,?_,c3⟩
    .simp only[JO,hs,eG,show sK 6 (Int.ofNat 6)=true from rfl,cond_true,hi,c1]
    .simp only[endOf,hs,eG,show sK 6 (Int.ofNat 6)=true from rfl,cond_true,hi,c2]
   .have hbb:b=b2:=by
     simp only[nd,ad,V.agg.injEq,gu,V.list.injEq,V.iface.injEq,V.int.injEq,Int.ofNat.injEq,and_true,true_and]at hh;exact hh.2.2.1
    rw[hab,<- hbb];exact qF hv hg hb (F2+1) (by omega)
theorem alX(hv:Vw D A ow l ns)(hg:wB ns=true){q:Nat}{k n:Int}{nm:List Nat}{ks:V}(hl:l[q]?=some (nd k n nm ks))(hn:ns[A q]?=some (nd k n nm (sub (rA A) ks))) :
  ∃js,jr 1000 ks=some js/\EG ns (A q)=js.map A/\tJ ns (A q)=(k,n,nm,sub (rA A) ks)/\(amB ns (A q)=true<->ks=.aj):=by
 obtain⟨h1,h2,h3⟩:=hv.node q _ hl (Ql _ _ _ _);have hnd:tJ ns (A q)=(k,n,nm,sub (rA A) ks):=by unfold tJ;rw[kZ hn,eG];rfl
 unfold BG at h1;rw[eG]at h1;dsimp only at h1;have hgn:=VO hg hn;unfold RP at hgn;rw[eG]at hgn;dsimp only at hgn;cases hk:jr 1000 ks with
 |none=>rw[hk]at h1;cases h1
 |some js =>
  obtain⟨_,_,hc⟩:=jk hk;refine⟨js,rfl,?_,hnd,?_⟩
  .unfold EG;rw[hnd];show(iT 1000000000 (sub (rA A) ks)).getD []=_;rcases hc with⟨rfl,rfl⟩|⟨e,rfl⟩
   .simp only[sub,iT];rfl
   .have hs:sub (rA A) (.list (js.map ad) e)=.list ((js.map A).map λj=>.int .i64 (.ofNat j)) e:=by simp only[sub,JD];rfl
    rw[hs]at hgn|-;simp only[iT,Dh]at hgn|-;cases hb:Nat.ble (js.map A).length 8&&pR 1000000000 (js.map A)with
    |false=>rw[hb]at hgn;cases hgn
    |true=>rfl
  .unfold amB;rw[hnd];rcases hc with⟨rfl,rfl⟩|⟨e,rfl⟩
   .simp only[sub]
   .simp only[sub];constructor<;>intro hh<;>cases hh
theorem Oe(hv:Vw D A ow l ns)(hg:wB ns=true){d q:Nat}(hd:d<D)(h:kU l 2 d=some q):(∃v,JO ns 3 d=some v)/\endOf ns 3 d=some (A q):=by
 rcases hv.zero d hd with h0|⟨_,n,nm,e,hn⟩
 .obtain⟨c1,c2,_⟩:=qF hv hg h 3 (by omega);rw[h0]at c1 c2;exact⟨c1,c2⟩
 .obtain⟨⟨v,c1⟩,c2,_⟩:=qF hv hg h 2 (by omega);obtain⟨rest,hs⟩:=lD hn;have hi:DK (.list [.int .i64 (.ofNat (A d))] e)=some (A d):=rfl;refine⟨⟨v,?_⟩,?_⟩
  .show JO ns (2+1) d=_;simp only[JO,hs,eG,show sK 6 (Int.ofNat 6)=true from rfl,cond_true,hi];exact c1
  .show endOf ns (2+1) d=_;simp only[endOf,hs,eG,show sK 6 (Int.ofNat 6)=true from rfl,cond_true,hi];exact c2
theorem Bj(hv:Vw D A ow l ns)(hg:wB ns=true){j q:Nat}(h:kU l 2 j=some q):endP ns (A j)=A q:=by
 unfold endP;rw[(qF hv hg h 3 (by omega)).2.1];rfl
theorem FM(hv:Vw D A ow l ns)(hg:wB ns=true){d q:Nat}(hd:d<D)(h:kU l 2 d=some q):endP ns d=A q:=by
 unfold endP;rw[(Oe hv hg hd h).2];rfl
theorem OW:∀{f p q:Nat},endOf ns f p=some q->endOf ns (f+1) p=some q
 |0,p,q,h=>by cases h
 |f+1,p,q,h=>by
  simp only[endOf]at h;show endOf ns (f+1+1) p=some q;rw[endOf];cases h1:skip p ns with
  |nil=>rw[h1]at h;cases h
  |cons v rest =>
   rw[h1]at h;dsimp only at h|-;cases h2:gV v with
   |none=>rw[h2]at h;cases h
   |some t =>
    obtain⟨k,n,nm,ks⟩:=t;rw[h2]at h;dsimp only at h|-;cases h3:sK k (Int.ofNat 6)with
    |false=>rw[h3]at h;exact h
    |true =>
     rw[h3]at h;simp only[cond_true]at h|-;cases h4:DK ks with
     |none=>rw[h4]at h;cases h
     |some b=>rw[h4]at h;exact OW h
theorem ao1(hv:Vw D A ow l ns){d:Nat}(hd:d<D){v:V}(h:JO ns 3 d=some v):endP ns (A d)=endP ns d:=by
 rcases hv.zero d hd with h0|⟨_,n,nm,e,hn⟩
 .rw[h0]
 .obtain⟨q,js,h1,_⟩:=IV h;obtain⟨rest,hs⟩:=lD hn;have hi:DK (.list [.int .i64 (.ofNat (A d))] e)=some (A d):=rfl;have h2:endOf ns 2 (A d)=some q:=by
   have h1:endOf ns (2+1) d=some q:=h1;simp only[endOf,hs,eG,show sK 6 (Int.ofNat 6)=true from rfl,cond_true,hi]at h1|-;exact h1
  unfold endP;rw[h1,OW h2]
end
section
theorem Td{l:List V}:∀{f j q:Nat},kU l f j=some q->kU l (f+1) j=some q
 |0,j,q,h=>by cases h
 |f+1,j,q,h=>by
  obtain⟨k,n,nm,ks,hl,hc⟩:=IG h;obtain⟨rest,hs⟩:=lD hl;rcases hc with⟨h6,rfl⟩|⟨rfl,b,e,rfl,hb⟩
  .simp only[kU,hs,eG,h6,cond_false]
  .have hi:aqR (.list [ad b] e)=some b:=rfl;have:=Td hb;show kU l (f+1+1) j=_;rw[show kU l (f+1+1) j=kU l (f+1) b by
    conv=>lhs;unfold kU
    simp only[hs,eG,show sK 6 (Int.ofNat 6)=true from rfl,cond_true,hi]]
   exact this
theorem Y6(res:Nat->Nat->Nat):∀(k c d:Nat),d<k->(inds res c k)[d]?=some (Kv (res (c+d) 0))
 |0,c,d,h=>by omega
 |k+1,c,0,h=>rfl
 |k+1,c,d+1,h=>by
  have:=Y6 res k (c+1) d (by omega);rw[show c+1+d=c+(d+1) by omega]at this;simpa[inds]using this
theorem Lm{l:List V}{i:Nat}{v:V}(h:l[i]?=some v):(bY l)[i]?=some (dV v):=by
 induction l generalizing i with
 |nil=>simp at h
 |cons w l ih =>
  cases i with
  |zero=>simp at h;subst h;simp[bY]
  |succ i=>simpa[bY]using ih (by simpa using h)
theorem aeV{od:List Nat}{a b:Nat}(ha:a∈od)(hb:b∈od)(h:od.idxOf a=od.idxOf b):a=b:=by
 have h1:=List.getElem_idxOf (wI ha);have h2:=List.getElem_idxOf (wI hb);rw[<- h1,<- h2];simp only[h]
def WE(D:Nat)(ns:List V)(od:List Nat)(A:Nat->Nat)(l:List V)(j:Nat):Nat:=match kU l 2 j with|some q=>D+od.idxOf (A q)|none=>if endP ns (A j)∈od then D+od.idxOf (endP ns (A j))else 0
def nwO(l:List V)(j:Nat):Bool:=match kU l 2 j with|some q=>Nat.beq q j|none=>false
theorem Jo{l:List V}{j:Nat}(h:nwO l j=true):kU l 2 j=some j:=by
 unfold nwO at h;cases hq:kU l 2 j with
 |none=>rw[hq]at h;cases h
 |some q=>rw[hq]at h;rw[aP h]
theorem qV{D:Nat}{ns:List V}{od:List Nat}{A:Nat->Nat}{l:List V}{j q:Nat}(h:kU l 2 j=some q):WE D ns od A l j=D+od.idxOf (A q):=by unfold WE;rw[h]
structure OkV (D:Nat)(l:List V):Prop where
 lv:∀(j:Nat) (v:V),l[j]?=some v->uX v=false->∃q,kU l 2 j=some q
 kd:∀(j:Nat) (k n:Int) (nm:List Nat) (ks:V) (js:List Nat),l[j]?=some (nd k n nm ks)->jr 1000 ks=some js->∀b∈js,∃q,kU l 2 b=some q
variable {D:Nat}{A B:Nat->Nat}{ow pw:Nat->Bool}{l k2 ns us:List V}{od tos:List Nat}
structure Cld (D:Nat)(ns:List V)(od tos:List Nat)(us:List V):Prop where
 pos:0<D
 ul:us.length=od.length
 kn:∀(j:Nat) w q,us[j]?=some w->od[j]?=some q->KN (amB ns q) w ((EG ns q).map λp=>od.idxOf (endP ns p)+D)
 tos:∀d,d<D->tos[d]?=some (od.idxOf (endP ns d))
def nwH(D:Nat)(ns:List V)(od tos:List Nat)(us:List V):List V:=bY (inds (UK tos D) 0 D++uY (λq=>(tJ ns q).1) (λq=>(tJ ns q).2.1) (λq=>(tJ ns q).2.2.1) od us)
theorem WG(hC:Cld D ns od tos us):(nwH D ns od tos us).length=D+od.length:=by
 unfold nwH;rw[oQ,bI,zB,wZ _ _ _ _ _ hC.ul]
theorem axG(hv:Vw D A ow l ns)(hg:wB ns=true)(hw:bY ns=ns)(hC:Cld D ns od tos us)(hO:OkV D l)(hm:∀j q,kU l 2 j=some q->A q∈od)(hz:∀d,d<D->endP ns d∈od/\endP ns (A d)=endP ns d) :
  Vw D (WE D ns od A l) (nwO l) l (nwH D ns od tos us) where
 zero d hd:=by
  refine .inr ⟨λj v hl hu ho=>?_,0,[],false,?_⟩
  .rw[qV (Jo ho)];omega
  .have h1:(inds (UK tos D) 0 D)[d]?=some (Kv (UK tos D (0+d) 0)):=Y6 _ D 0 d hd;have h2:UK tos D (0+d) 0=WE D ns od A l d:=by
    unfold UK;rw[iF,hC.tos d hd];cases hq:kU l 2 d with
    |some q =>
     rw[qV hq,FM hv hg hd hq];simp;omega
    |none =>
     unfold WE;rw[hq];dsimp only;rw[(hz d hd).2,if_pos (hz d hd).1];simp;omega
   rw[h2]at h1;unfold nwH;rw[Lm (v:=Kv (WE D ns od A l d)) (by rw[jf (by rw[zB];exact hd)];exact h1)];simp only[Kv,dV,bY,jn,nd];rfl
 pos:=hv.pos
 inj i j v w hi hui hoi hj huj hoj h:=by
  have e1:=Jo hoi;have e2:=Jo hoj;rw[qV e1,qV e2]at h;have h3:=aeV (hm i i e1) (hm j j e2) (by omega);exact hv.inj i j v w hi hui (qF hv hg e1 2 (by omega)).2.2.1 hj huj (qF hv hg e2 2 (by omega)).2.2.1 h3
 low j hj:=by
  rw[WG hC];unfold WE;cases hq:kU l 2 j with
  |none =>
   dsimp only
   split
   .rename_i h;have:=wI h;omega
   .have:=hC.pos;omega
  |some q=>have:=wI (hm j q hq);simp;omega
 node j v hl hu:=by
  obtain⟨h1,h2,_⟩:=hv.node j v hl hu;refine⟨h1,h2,?_⟩;obtain⟨q,hq⟩:=hO.lv j v hl hu;obtain⟨k,n,nm,ks,hl2,hc⟩:=IG hq;rw[hl]at hl2;cases hl2;rcases hc with⟨h6,rfl⟩|⟨rfl,b,e,rfl,hb⟩
  .left
   obtain⟨_,_,_,k',n',nm',ks',hq1,_,hq2⟩:=qF hv hg hq 2 (by omega);rw[hl]at hq1;simp only[nd,aG,V.agg.injEq,gu,V.int.injEq,V.str.injEq,true_and,and_true]at hq1;obtain⟨rfl,rfl,rfl,rfl⟩:=hq1;obtain⟨js,c1,c2,c3,c4⟩:=alX hv hg hl hq2;refine⟨by unfold nwO;rw[hq];exact jP _,?_⟩;have hmem:=hm q q hq;have hi:=wI hmem;have ho:=List.getElem_idxOf hi;obtain⟨w,hw1⟩:∃w,us[od.idxOf (A q)]?=some w:=⟨_,bV (by rw[hC.ul];exact hi)⟩;have ho2:od[od.idxOf (A q)]?=some (A q):=by rw[bV hi,ho]
   obtain⟨d1,d2⟩:=hC.kn _ w _ hw1 ho2;obtain⟨_,t2⟩:=Qo (nk:=λq=>(tJ ns q).1) (nn:=λq=>(tJ ns q).2.1) (nm:=λq=>(tJ ns q).2.2.1) od us _ w (A q) hC.ul hw1 ho2;have hjs:((EG ns (A q)).map λp=>od.idxOf (endP ns p)+D)=js.map (WE D ns od A l):=by
    rw[c2,List.map_map];refine List.map_congr_left λb hb=>?_;obtain⟨q2,hq2⟩:=hO.kd q _ _ _ _ _ hl c1 b hb;show od.idxOf (endP ns (A b))+D=_;rw[Bj hv hg hq2,qV hq2];omega
   rw[hjs]at d1;rw[qV hq];unfold nwH;rw[Lm (v:=nd (tJ ns (A q)).1 (tJ ns (A q)).2.1 (tJ ns (A q)).2.2.1 w) (by rw[rE (by rw[zB];omega),zB,Nat.add_sub_cancel_left];exact t2),c3,Rx,yw];congr 2;obtain⟨_,_,hc⟩:=jk c1;rcases hc with⟨rfl,rfl⟩|⟨e,rfl⟩
   .rw[d2.2 (c4.2 rfl)];simp only[dV,sub]
   .have he:e=false:=by
     have h5:=Lm hq2;rw[hw,hq2,Rx]at h5;simp only[nd,sub,dV,aG,V.agg.injEq,gu,V.list.injEq,true_and,and_true]at h5;exact h5.2
    subst he;rcases d1 with⟨rfl,_⟩|⟨e',rfl⟩
    .have:=c4.1 (d2.1 rfl);cases this
    .simp only[dV,sub,JD,tX];rfl
  .right
   have hne:Nat.beq q j=false:=by
    obtain⟨_,_,_,k',n',nm',ks',hq1,h6,_⟩:=qF hv hg hq 2 (by omega);refine iH λe=>?_;subst e;rw[hl]at hq1;simp only[nd,aG,V.agg.injEq,gu,V.int.injEq]at hq1;rw[<- hq1.1.2]at h6;cases h6
   refine⟨by unfold nwO;rw[hq];exact hne,n,nm,b,e,rfl,?_⟩;rw[qV hq,qV (Td hb)]
theorem aqb(hv:Vw D A ow l ns)(hB:Vw D B pw k2 ns)(hg:wB ns=true)(hm:∀j q,kU l 2 j=some q->A q∈od)(hm2:∀j q,kU k2 2 j=some q->B q∈od)(hd:Dis A ow l B pw k2):Dis (WE D ns od A l) (nwO l) l (WE D ns od B k2) (nwO k2) k2:=by
 intro i j v u hi hui hoi hj huj hoj h;have e1:=Jo hoi;have e2:=Jo hoj;rw[qV e1,qV e2]at h;have h3:=aeV (hm i i e1) (hm2 j j e2) (by omega);exact hd i j v u hi hui (qF hv hg e1 2 (by omega)).2.2.1 hj huj (qF hB hg e2 2 (by omega)).2.2.1 h3
end
def auU(b:Bool)(l:List Nat):dV (eV b l)=eV b l:=by
 cases b with
 |true=>rfl
 |false =>
  simp only[eV,cond_false,dV];rw[tX];rfl
def af8:∀fs:List Ls,bY (fs.map DX)=fs.map DX
 |[]=>rfl
 |f::fs=>by
  simp only[bD,bY,af8 fs];congr 1;simp only[DX,dV,bY,auU,jn]
def aga:∀fs:List (Nat×Nat),bY (fs.map AY)=fs.map AY
 |[]=>rfl
 |f::fs=>by
  simp only[bD,bY,aga fs];congr 1
def auW{b:Bool}{l:List V}(h:bY l=l):dV (sV b l)=sV b l:=by
 cases b with
 |true=>rfl
 |false=>simp only[sV,cond_false,dV,h]
def aed(t:AV):dV (yP t)=yP t:=by
 unfold yP;simp only[dV,bY,auU,auW (af8 t.st),auW (aga t.ko),jn]
def afR{res:Nat->Nat->Nat}{A A2:Nat->Nat->Nat}{th:Nat->AV}{g:Nat->Nat}:∀(is:List Nat) (c:Nat),
  (∀(k p:Nat),(mO (is.map λu=>BJ (A u) (th u)))[k]?=some p->∀x,res (c+k) x=g p)->(∀u∈is,∀j∈G7 (th u),g (A u j)=A2 u j) ->
  bY (Dx res c (is.map λu=>BJ (A u) (th u)))=is.map λu=>yP (BJ (A2 u) (th u))
 |[],c,h,hA=>rfl
 |u::is,c,h,hA=>by
  simp only[bD,Dx,bY,mO]at h|-;have hT:Tks res (A2 u) c (G7 (th u)):=λk j hk x=>by
   have h1:((G7 (BJ (A u) (th u)))++mO (is.map λu=>BJ (A u) (th u)))[k]?=some (A u j):=by
    rw[Rh,jf (by rw[jo];exact(fB.1 hk).1),iW,hk];rfl
   rw[h k _ h1 x];exact hA u bZ j (lK hk)
  rw[axO (th u) c hT,aed,afR is (c+(G7 (BJ (A u) (th u))).length) (λk p hk x=>by
   have:=h ((G7 (BJ (A u) (th u))).length+k) p (by rw[rE (by omega),Nat.add_sub_cancel_left];exact hk) x;rw[<- gq]at this;exact this) (λv hv=>hA v (bW _ hv))]
def aa1{A:Nat->Nat->Nat}{th:Nat->AV}:∀{is:List Nat} {p:Nat},p∈mO (is.map λu=>BJ (A u) (th u))->∃u∈is,∃j∈G7 (th u),p=A u j
 |[],p,h=>by simp[mO]at h
 |u::is,p,h=>by
  simp only[bD,mO,dH]at h;rcases h with h|h
  .rw[Rh]at h;obtain⟨j,hj,rfl⟩:=kC.1 h;exact⟨u,bZ,j,hj,rfl⟩
  .obtain⟨v,hv,h2⟩:=aa1 h;exact⟨v,bW _ hv,h2⟩
def afQ{A:Nat->Nat->Nat}{th:Nat->AV}:∀{is:List Nat} {u j:Nat},u∈is->j∈G7 (th u)->A u j∈mO (is.map λu=>BJ (A u) (th u))
 |[],u,j,h,_=>by simp at h
 |v::is,u,j,h,hj=>by
  simp only[bD,mO,dH];rcases bU.1 h with rfl|h
  .left;rw[Rh];exact List.mem_map_of_mem hj
  .exact .inr (afQ h hj)
def EM:∀(N:Nat) (o:List Nat),o.Nodup->(∀q∈o,q<N)->o.length<=N
 |0,o,_,h=>by
  cases o with
  |nil=>simp
  |cons a o=>have:=h a bZ;omega
 |N+1,o,hn,h=>by
  by_cases hm:N∈o
  .have h1:=EM N (o.erase N) (hn.erase N) (λq hq=>by
    have h2:=h q (List.mem_of_mem_erase hq);have h3:q≠N:=λe=>by subst e;exact(List.Nodup.not_mem_erase hn) hq
    omega)
   rw[List.length_erase_of_mem hm]at h1;omega
  .have h1:=EM N o hn (λq hq=>by
    have h2:=h q hq;have h3:q≠N:=λe=>hm (e▸hq);omega)
   omega
section
inductive Rq (l:List V)(D:Nat)(pl:List Nat):Nat->Prop
 |nm {d q:Nat} (hd:d<D) (h:kU l 2 d=some q):Rq l D pl q
 |pl {j q:Nat} (hj:j∈pl) (h:kU l 2 j=some q):Rq l D pl q
 |kid {a b q:Nat} {k n:Int} {nm:List Nat} {ks:V} {js:List Nat} (ha:Rq l D pl a) (hl:l[a]?=some (nd k n nm ks)) (hk:jr 1000 ks=some js) (hb:b∈js) (h:kU l 2 b=some q):Rq l D pl q
theorem Rq.end{l:List V}{D:Nat}{pl:List Nat}{q:Nat}(h:Rq l D pl q):∃j,kU l 2 j=some q:=by
 cases h with
 |nm _ h=>exact⟨_,h⟩
 |pl _ h=>exact⟨_,h⟩
 |kid _ _ _ _ h=>exact⟨_,h⟩
structure auZ (D:Nat)(s:Ks)(th:AV):Prop where
 ok:OkV D s.l
 x:s.x=thN th
 b:ThB th
 len:(G7 th).length<=800
 pl:∀j∈G7 th,∃q,kU s.l 2 j=some q
 rq:∀j q,kU s.l 2 j=some q->Rq s.l D (G7 th) q
theorem aa0{A:Nat->Nat->Nat}{th:Nat->AV}:∀(is:List Nat),(∀u∈is,(G7 (th u)).length<=800)->(mO (is.map λu=>BJ (A u) (th u))).length<=800*is.length
 |[],h=>by simp[mO]
 |u::is,h=>by
  have h1:=h u bZ;have h2:=aa0 (A:=A) is (λv hv=>h v (bW _ hv));simp only[bD,mO,bI,Rh,jo,bP];omega
theorem ThB.mp{A:Nat->Nat}{t:AV}(h:ThB t):ThB (BJ A t):=by
 obtain⟨h1,h2,h3⟩:=h;refine⟨?_,?_,?_⟩
 .show(t.st.map _).length<=1000;rw[jo];exact h1
 .show(t.ko.map _).length<=1000;rw[jo];exact h2
 .rw[Rh,jo];exact h3
theorem aw2(os:List Nat):qW (oV os)=true:=by cases os<;>rfl
variable {Y:Rws}{P:Nat->Nat}{cn most:Nat}{ns xs ds:List V}{A:Nat->Nat->Nat}{ow:Nat->Nat->Bool}{os:List Nat}{c:V}{ed:Bool}{th:Nat->AV}
theorem aky(hI:Oh Y P cn ns xs A ow)(hS:∀t,t<xs.length->auZ Y.C.D (Y.R t (P t)) (th t))(hmy:∀v∈ns,vJ [v,jn ns.length]=some (.bool true))(hx0:0<xs.length)(hown:∃o,o<xs.length/\∀d,d<Y.C.D->∃q,kU (Y.R o (P o)).l 2 d=some q)(hxl:xs.length<=1000)
  (hD0:0<Y.C.D) (hD:Y.C.D<=1000) (Tv:Y.C.defs=.list ds ed) (hds:ds.length=Y.C.D) (Ez:Y.C.most=Int.ofNat most) (hroom:1+3*tot Y.n P+Y.C.D*(cn+1)<=most) (hm5:most<=5000) (hc:NoC c) (f0:aO Y.C.ops=true) (f1:aW ds=true) (o0:qW Y.C.ops=true) :
  ∃od tos us rR,EvA (mmG ns false most) Tab.fns 28 [Ir Y os ns xs c] rR/\Cld Y.C.D ns od tos us/\od.length<=ns.length/\od.Nodup/\(∀q∈od,∀p∈EG ns q,endP ns p∈od)/\(∀q∈od,q<ns.length) /\
   (∀t,t<xs.length->∀j q,kU (Y.R t (P t)).l 2 j=some q->A t q∈od) /\
   dV rR=.tuple [dV (zS Y.C (.list (nwH Y.C.D ns od tos us) false) (.list [] true) ((List.range xs.length).map λu=>yP (BJ (WE Y.C.D ns od (A u) (Y.R u (P u)).l) (th u))) (oV os)),.bool true]:=by
 have hvw:∀t,t<xs.length->Vw Y.C.D (A t) (ow t) (Y.R t (P t)).l ns:=λt ht=>by
  obtain⟨X,_,ha⟩:=hI.ats t ht;exact ha.vw
 have hg:=hI.gn;obtain⟨ts,hts⟩:∃ts,((List.range xs.length).map λu=>BJ (A u) (th u))=ts:=⟨_,rfl⟩;have hxs:ts.map yP=xs:=by
  rw[<- hts,List.map_map];refine List.ext_getElem? λu=>?_;rw[iW];rcases dP u xs.length with hu|hu
  .rw[List.getElem?_range hu];obtain⟨X,hX,ha⟩:=hI.ats u hu;rw[hX,ha.x,(hS u hu).x,afJ];rfl
  .rw[gU (by simpa using hu),gU hu];rfl
 have hmem:∀p∈mO ts,∃u,u<xs.length/\∃j∈G7 (th u),p=A u j:=λp hp=>by
  rw[<- hts]at hp;obtain⟨u,hu,j,hj,e⟩:=aa1 hp;exact⟨u,dh.1 hu,j,hj,e⟩
 have hlen:ts.length=xs.length:=by rw[<- hts];simp
 obtain⟨R,hRd⟩:∃R:Nat->Prop,R=λp=>p<Y.C.D\/∃u,u<xs.length/\∃j q,kU (Y.R u (P u)).l 2 j=some q/\p=A u j:=⟨_,rfl⟩;have hend:∀p,R p->∃u,u<xs.length/\∃x q,kU (Y.R u (P u)).l 2 x=some q/\endP ns p=A u q:=λp hp=>by
  rw[hRd]at hp;rcases hp with hp|⟨u,hu,j,q,hq,rfl⟩
  .obtain⟨o,ho,hnm⟩:=hown;obtain⟨q,hq⟩:=hnm p hp;exact⟨o,ho,p,q,hq,FM (hvw o ho) hg hp hq⟩
  .exact⟨u,hu,j,q,hq,Bj (hvw u hu) hg hq⟩
 have hat:∀p,R p->∃v,JO ns 3 p=some v:=λp hp=>by
  rw[hRd]at hp;rcases hp with hp|⟨u,hu,j,q,hq,rfl⟩
  .obtain⟨o,ho,hnm⟩:=hown;obtain⟨q,hq⟩:=hnm p hp;exact(Oe (hvw o ho) hg hp hq).1
  .exact(qF (hvw u hu) hg hq 3 (by omega)).1
 have hlt:∀p,R p->endP ns p<ns.length:=λp hp=>by
  obtain⟨v,hv⟩:=hat p hp;exact aeD hv
 have hnl:∀o:List Nat,o.Nodup->(∀q∈o,∃p,R p/\q=endP ns p)->o.length<=ns.length:=λo ho hq=>EM _ o ho λq hqo=>by
  obtain⟨p,hp,rfl⟩:=hq q hqo;exact hlt p hp
 have hsz:ns.length+Y.C.D<=most:=by
  have:=hI.len;rw[Nat.mul_succ]at hroom;omega
 obtain⟨od,us,a1,a2,a3,a4,a5,a6,a7⟩:=ap6 (C:=Y.C) (R:=R) (ts:=ts) (ns:=ns) (e:=false) (o:=oV os) (c:=c) Tv Ez hds (λe=>by rw[e]at hlen;simp at hlen;omega) (by omega)
  (λt ht=>by
   rw[<- hts]at ht;obtain⟨u,hu,rfl⟩:=kC.1 ht;exact(hS u (dh.1 hu)).b.mp)
  (by
   have:=aa0 (A:=A) (th:=th) (List.range xs.length) (λu hu=>(hS u (dh.1 hu)).len);rw[hts,List.length_range]at this;omega)
  hD hg (by omega) hm5 hmy
  (λp hp=>by
   rw[hRd];rcases dH.1 hp with hp|hp
   .exact .inl (dh.1 hp)
   .obtain⟨u,hu,j,hj,rfl⟩:=hmem p hp;obtain⟨q,hq⟩:=(hS u hu).pl j hj;exact .inr ⟨u,hu,j,q,hq,rfl⟩) hat
  (λp hp j hj=>by
   obtain⟨u,hu,x,q,hq,he⟩:=hend p hp;rw[he]at hj;obtain⟨_,_,_,k,n,nm,ks,hl,_,hn⟩:=qF (hvw u hu) hg hq 2 (by omega);obtain⟨js,c1,c2,_⟩:=alX (hvw u hu) hg hl hn;rw[c2]at hj;obtain⟨b,hb,rfl⟩:=kC.1 hj;obtain⟨q2,hq2⟩:=(hS u hu).ok.kd _ _ _ _ _ _ hl c1 b hb;rw[hRd];exact .inr ⟨u,hu,b,q2,hq2,rfl⟩)
  (λe=>by
   have:=congrArg List.length e;simp at this;omega)
  (λo ho hq=>by have:=hnl o ho hq;omega) hc f0 f1 (Dk os).1 o0 (aw2 os)
 rw[hxs]at a1;have azg:∀t,t<xs.length->∀j q,kU (Y.R t (P t)).l 2 j=some q->A t q∈od:=λt ht j q hq=>by
  have hr:=(hS t ht).rq j q hq;clear hq
  induction hr with
  |nm hd h =>
   have:=a6 _ (rM _ (dh.2 hd))
   rwa[FM (hvw t ht) hg hd h]at this
  |pl hj h =>
   have:=a6 _ (List.mem_append_right _ (by rw[<- hts];exact afQ (A:=A) (dh.2 ht) hj))
   rwa[Bj (hvw t ht) hg h]at this
  |kid ha hl hk hb h ih =>
   obtain⟨x,hx⟩:=ha.end;obtain⟨_,_,_,k',n',nm',ks',hl2,_,hn⟩:=qF (hvw t ht) hg hx 2 (by omega);obtain⟨js,c1,c2,_⟩:=alX (hvw t ht) hg hl2 hn;rw[hl]at hl2;simp only[nd,aG,V.agg.injEq,gu,and_true]at hl2;rw[<- hl2.2.2.2,hk]at c1;cases c1;have:=a7 _ ih (A t _) (by rw[c2];exact List.mem_map_of_mem hb)
   rwa[Bj (hvw t ht) hg h]at this
 have acg:∀d,d<Y.C.D->((List.range Y.C.D++mO ts).map λp=>od.idxOf (endP ns p))[d]?=some (od.idxOf (endP ns d)):=λd hd=>by
  rw[iW,jf (by simpa using hd),List.getElem?_range hd];rfl
 have hC:Cld Y.C.D ns od ((List.range Y.C.D++mO ts).map λp=>od.idxOf (endP ns p)) us:=⟨hD0,a2,a3,acg⟩;refine⟨od,_,us,_,a1,hC,hnl od a4 a5,a4,a7,λq hq=>?_,azg,?_⟩
 .obtain⟨p,hp,rfl⟩:=a5 q hq;exact hlt p hp
 .have hth:bY (Dx (UK ((List.range Y.C.D++mO ts).map λp=>od.idxOf (endP ns p)) Y.C.D) Y.C.D ts)=(List.range xs.length).map λu=>yP (BJ (WE Y.C.D ns od (A u) (Y.R u (P u)).l) (th u)):=by
   have h0:=afR (res:=UK ((List.range Y.C.D++mO ts).map λp=>od.idxOf (endP ns p)) Y.C.D) (A:=A) (A2:=λu=>WE Y.C.D ns od (A u) (Y.R u (P u)).l) (th:=th) (g:=λp=>Y.C.D+od.idxOf (endP ns p)) (List.range xs.length) Y.C.D;rw[hts]at h0;refine h0 (λk p hk x=>?_) (λu hu j hj=>?_)
   .unfold UK;rw[iW,rE (by simp),List.length_range,Nat.add_sub_cancel_left,hk];simp;omega
   .have hu:=dh.1 hu;obtain⟨q,hq⟩:=(hS u hu).pl j hj;show Y.C.D+od.idxOf (endP ns (A u j))=WE _ _ _ _ _ _;rw[Bj (hvw u hu) hg hq,qV hq]
  have hwx:∀is:List Nat,bY (is.map λu=>yP (BJ (WE Y.C.D ns od (A u) (Y.R u (P u)).l) (th u)))=is.map λu=>yP (BJ (WE Y.C.D ns od (A u) (Y.R u (P u)).l) (th u)):=λis=>by
   rw[tX];simp only[aed]
  simp only[zS,dV,bY,hth,hwx,nwH,yQ]
end
section
theorem EH{M:Nat}(js:List Nat)(h8:js.length<=8)(hM:∀j∈js,j<M)(e:Bool):iT M (.list (js.map jn) e)=some js:=by
 have h1:zG (js.map jn)=some js:=Dh js;simp only[iT,h1,sZ.2 hM,dO h8,aU,cond_true]
theorem Zx{m:Nat}{ks:V}{js:List Nat}(h:iT m ks=some js):js.length<=8/\(∀j∈js,j<m)/\((ks=.aj/\js=[])\/∃e,ks=.list (js.map jn) e):=by
 have h1:=(rZ h).1;have h2:=(rZ h).2.1;refine⟨h1,h2,?_⟩;cases ks<;>first|(cases h;done)|skip
 .cases h;exact .inl ⟨rfl,rfl⟩
 .rename_i xs e;simp only[iT]at h;cases h3:zG xs with
  |none=>rw[h3]at h;cases h
  |some RF =>
   rw[h3]at h;dsimp only at h;cases hb:Nat.ble RF.length 8&&pR m RF with
   |false=>rw[hb]at h;cases h
   |true=>rw[hb]at h;cases h;exact .inr ⟨e,by rw[Aj h3];rfl⟩
theorem EI{m M:Nat}{ks:V}{js:List Nat}(h:iT m ks=some js)(hm:∀j∈js,j<M):iT M ks=some js:=by
 obtain⟨h1,_,h3⟩:=Zx h;rcases h3 with⟨rfl,rfl⟩|⟨e,rfl⟩
 .rfl
 .exact EH js h1 hm e
theorem KG{k n:Int}{nm:List Nat}{ks:V}{m:Nat}{js:List Nat}(h:iT m ks=some js)(ho:pG k n nm js.length=true):vJ [nd k n nm ks,jn m]=some (.bool true):=by
 have h1:jw (jn m)=some m:=rfl;simp only[vJ,eG,h1,h,ho,cond_true]
theorem aeQ:∀{ns:List V} {m:Nat},m<=1000000000->(∀v∈ns,vJ [v,jn m]=some (.bool true))->wB ns=true
 |[],m,_,h=>rfl
 |v::ns,m,hm,h=>by
  obtain⟨k,n,nm,ks,m2,js,e1,_,e3,_⟩:=Ji (h v bZ);simp only[gu,and_true]at e1;have hk:=EI (M:=1000000000) e3 (λj hj=>by
   have:=(rZ e3).2.1 j hj;have e2:=e1.2;simp only[jn,V.int.injEq,Int.ofNat.injEq,true_and]at e2;omega)
  simp only[wB,RP,e1.1,eG,hk,aeQ hm (λw hw=>h w (bW _ hw)),aU]
theorem afh{nk nn:Nat->Int}{nm:Nat->List Nat}:∀(o:List Nat) (us:List V) (v:V),us.length=o.length->v∈uY nk nn nm o us->∃(j:Nat) (q:Nat) (w:V),o[j]?=some q/\us[j]?=some w/\v=nd (nk q) (nn q) (nm q) w
 |[],us,v,hl,h=>by simp[uY]at h
 |q::o,[],v,hl,h=>by simp at hl
 |q::o,u::us,v,hl,h=>by
  simp only[uY]at h;rcases bU.1 h with rfl|h
  .exact⟨0,q,u,rfl,rfl,rfl⟩
  .obtain⟨j,q2,w,h1,h2,h3⟩:=afh o us v (by simpa using hl) h;exact⟨j+1,q2,w,by simpa using h1,by simpa using h2,h3⟩
theorem Y7(res:Nat->Nat->Nat):∀(k c:Nat) (v:V),v∈inds res c k->∃d,d<k/\v=Kv (res (c+d) 0)
 |0,c,v,h=>by simp[inds]at h
 |k+1,c,v,h=>by
  simp only[inds]at h;rcases bU.1 h with rfl|h
  .exact⟨0,by omega,rfl⟩
  .obtain⟨d,hd,rfl⟩:=Y7 res k (c+1) v h;exact⟨d+1,by omega,by rw[show c+1+d=c+(d+1) by omega]⟩
theorem aoV{l:List V}{v:V}(h:v∈bY l):∃w∈l,v=dV w:=by
 induction l with
 |nil=>simp[bY]at h
 |cons a l ih =>
  simp only[bY]at h;rcases bU.1 h with rfl|h
  .exact⟨a,bZ,rfl⟩
  .obtain⟨w,h1,h2⟩:=ih h;exact⟨w,bW _ h1,h2⟩
variable {D:Nat}{ns us:List V}{od tos:List Nat}
theorem arE(hC:Cld D ns od tos us)(hmy:∀v∈ns,vJ [v,jn ns.length]=some (.bool true))(hns:ns.length<=1000000000)(hlt:∀q∈od,q<ns.length)(hcl:∀q∈od,∀p∈EG ns q,endP ns p∈od)(hz:∀d,d<D->endP ns d∈od) :
  ∀v∈nwH D ns od tos us,vJ [v,jn (nwH D ns od tos us).length]=some (.bool true):=λv hv=>by
 rw[WG hC];obtain⟨w,hw,rfl⟩:=aoV hv;rcases dH.1 hw with hw|hw
 .obtain⟨d,hd,rfl⟩:=Y7 _ D 0 w hw;have hi:=wI (hz d hd);have hx:UK tos D (0+d) 0=od.idxOf (endP ns d)+D:=by unfold UK;rw[iF,hC.tos d hd];rfl
  rw[hx];have:dV (Kv (od.idxOf (endP ns d)+D))=nd 6 0 [] (.list ([od.idxOf (endP ns d)+D].map jn) false):=by
   simp only[Kv,dV,bY,jn,nd];rfl
  rw[this];exact KG (EH _ (by simp) (λj hj=>by simp at hj;omega) _) rfl
 .obtain⟨j,q,u,h1,h2,rfl⟩:=afh od us w hC.ul hw;have hq:=lK h1;have hqn:=hlt q hq;obtain⟨k,n,nm,ks,m2,js,e1,_,e3,e4⟩:=Ji (hmy ns[q] (ku hqn));simp only[gu,and_true]at e1;have e2:=e1.2;simp only[jn,V.int.injEq,Int.ofNat.injEq,true_and]at e2;have hnd:tJ ns q=(k,n,nm,ks):=by unfold tJ;rw[kZ (bV hqn),e1.1,eG];rfl
  have hjs:EG ns q=js:=by
   unfold EG;rw[hnd];show(iT 1000000000 ks).getD []=js;rw[EI e3 (λj hj=>by have:=(rZ e3).2.1 j hj;omega)];rfl
  obtain⟨d1,_⟩:=hC.kn j u q h2 h1;rw[hjs]at d1;have h8:=(rZ e3).1;have hb:∀x∈(js.map λp=>od.idxOf (endP ns p)+D),x<D+od.length:=λx hx=>by
   obtain⟨p,hp,rfl⟩:=kC.1 hx;have:=wI (hcl q hq p (by rw[hjs];exact hp));omega
  rw[hnd,Rx];have hl:js.length=(js.map λp=>od.idxOf (endP ns p)+D).length:=by simp
  rw[hl]at e4 h8;rcases d1 with⟨rfl,h0⟩|⟨e,rfl⟩
  .rw[h0]at e4;exact KG (js:=[]) rfl e4
  .have:dV (.list ((js.map λp=>od.idxOf (endP ns p)+D).map jn) e)=.list ((js.map λp=>od.idxOf (endP ns p)+D).map jn) false:=by
    simp only[dV];rw[tX];rfl
   rw[this];exact KG (EH _ h8 hb _) e4
end
section
theorem ata(t:AV):ThC (yP t):=by
 refine⟨_,rfl,rfl,λc hc=>?_⟩;have p1:∀(b:Bool) (l:List Nat),fM (eV b l)=true:=λb l=>by cases b<;>rfl
 have p2:∀(b:Bool) (l:List V),fM (sV b l)=true:=λb l=>by cases b<;>rfl
 simp only[bU,List.not_mem_nil,or_false]at hc;rcases hc with rfl|rfl|rfl|rfl|rfl|rfl|rfl|rfl|rfl|rfl|rfl
 .exact⟨rfl,rfl⟩
 .exact⟨rfl,rfl⟩
 .exact⟨p1 _ _,Vh _ _⟩
 .exact⟨rfl,rfl⟩
 .exact⟨p2 _ _,N7 (Po _)⟩
 .exact⟨p2 _ _,N7 (PY _)⟩
 .exact⟨rfl,rfl⟩
 .exact⟨rfl,rfl⟩
 .exact⟨rfl,rfl⟩
 .exact⟨rfl,rfl⟩
 .exact⟨rfl,rfl⟩
variable {Y:Rws}{P:Nat->Nat}{cn most:Nat}{ns xs ds:List V}{A:Nat->Nat->Nat}{ow:Nat->Nat->Bool}{os:List Nat}{c:V}{ed:Bool}{th:Nat->AV}
theorem Y8(hI:Oh Y P cn ns xs A ow)(hS:∀t,t<xs.length->auZ Y.C.D (Y.R t (P t)) (th t))(hmy:∀v∈ns,vJ [v,jn ns.length]=some (.bool true))(hx0:0<xs.length)(hown:∃o,o<xs.length/\∀d,d<Y.C.D->∃q,kU (Y.R o (P o)).l 2 d=some q)(hxl:xs.length<=1000)
  (hD0:0<Y.C.D) (hD:Y.C.D<=1000) (Tv:Y.C.defs=.list ds ed) (hds:ds.length=Y.C.D) (Ez:Y.C.most=Int.ofNat most) (hroom:1+3*tot Y.n P+Y.C.D*(cn+1)<=most) (hm5:most<=5000) (hc:NoC c) (f0:aO Y.C.ops=true) (f1:aW ds=true) (o0:qW Y.C.ops=true) :
  ∃nU xs2 A2 D9 rR,EvA (mmG ns false most) Tab.fns 28 [Ir Y os ns xs c] rR/\dV rR=.tuple [dV (Ir Y os nU xs2 (.list [] true)),.bool true]/\Oh Y P (cn+1) nU xs2 A2 D9/\xs2.length=xs.length/\(∀v∈nU,vJ [v,jn nU.length]=some (.bool true))/\qN Go.Proofs.Tryz.prog vZ (mmG ns false most):=by
 obtain⟨od,tos,us,rR,a1,hC,a3,a4,a5,a6,a7,a8⟩:=aky (os:=os) hI hS hmy hx0 hown hxl hD0 hD Tv hds Ez hroom hm5 hc f0 f1 o0;have hvw:∀t,t<xs.length->Vw Y.C.D (A t) (ow t) (Y.R t (P t)).l ns:=λt ht=>by
  obtain⟨X,_,ha⟩:=hI.ats t ht;exact ha.vw
 have hsz:ns.length+Y.C.D<=most:=by
  have:=hI.len;rw[Nat.mul_succ]at hroom;omega
 have hzz:∀d,d<Y.C.D->endP ns d∈od/\∃v,JO ns 3 d=some v:=λd hd=>by
  obtain⟨o,ho,hnm⟩:=hown;obtain⟨q,hq⟩:=hnm d hd;exact⟨by rw[FM (hvw o ho) hI.gn hd hq];exact a7 o ho d q hq,(Oe (hvw o ho) hI.gn hd hq).1⟩
 have hmay:=arE hC hmy (by omega) a6 a5 (λd hd=>(hzz d hd).1);have hlen:=WG hC;have alz:((List.range xs.length).map λu=>yP (BJ (WE Y.C.D ns od (A u) (Y.R u (P u)).l) (th u))).length=xs.length:=by simp
 refine⟨_,_,λu=>WE Y.C.D ns od (A u) (Y.R u (P u)).l,λu=>nwO (Y.R u (P u)).l,rR,a1,a8,⟨?_,yQ _,?_,?_,?_,?_,hI.le,?_,λt ht=>?_,λt u ht hu hne=>?_⟩,alz,hmay,awI hI.gn (by omega) hm5 hmy⟩
 .exact aeQ (m:=(nwH Y.C.D ns od tos us).length) (by omega) hmay
 .rw[tX];simp only[aed]
 .rw[hlen,Nat.mul_succ];have:=hI.len;omega
 .rw[alz];exact hI.m
 .intro X hX;obtain⟨u,_,rfl⟩:=kC.1 hX;exact ata _
 .rw[alz];exact hI.zero
 .rw[alz]at ht;obtain⟨X,hX,ha⟩:=hI.ats t ht;refine⟨yP (BJ (WE Y.C.D ns od (A t) (Y.R t (P t)).l) (th t)),by rw[iW,List.getElem?_range ht];rfl,axG ha.vw hI.gn hI.wn hC (hS t ht).ok (a7 t ht) (λd hd=>⟨(hzz d hd).1,by obtain⟨v,hv⟩:=(hzz d hd).2;exact ao1 ha.vw hd hv⟩),?_,ha.inx⟩;rw[(hS t ht).x,afJ]
 .rw[alz]at ht hu;exact aqb (hvw t ht) (hvw u hu) hI.gn (a7 t ht) (a7 u hu) (hI.dis t u ht hu hne)
end
def ahY(m:Nat)(v:V):Bool:=match gV v with
 |some (k,n,nm,ks)=>(match jr 1000 ks with
  |some js=>pR m js&&pG k n nm js.length
  |none=>false)
 |none=>false
def amm{v:V}{m M:Nat}(h:vJ [v,jn m]=some (.bool true))(hm:m<=M):vJ [v,jn M]=some (.bool true):=by
 obtain⟨k,n,nm,ks,m2,js,e1,_,e3,e4⟩:=Ji h;simp only[gu,and_true]at e1;have e2:=e1.2;simp only[jn,V.int.injEq,Int.ofNat.injEq,true_and]at e2;rw[e1.1];exact KG (EI e3 (λj hj=>by have:=(rZ e3).2.1 j hj;omega)) e4
def aeW(T:Th){v:V}{m M:Nat}(hv:uX v=true\/ahY m v=true)(hA:∀j,j<m->T.zV j<M):vJ [T.img v,jn M]=some (.bool true):=by
 unfold Th.img;cases hb:BG v with
 |false=>exact KG (js:=[]) rfl rfl
 |true =>
  obtain⟨k,n,nm,ks,js,rfl,hk⟩:=Jc hb;rcases hv with hv|hv
  .cases hv
  .unfold ahY at hv;rw[eG]at hv;dsimp only at hv;rw[hk]at hv;simp only[ah]at hv;obtain⟨h1,_,h3⟩:=BA T hk;rw[cond_true,yw,h1];refine KG (h3 M λj hj=>hA j (sZ.1 hv.1 j hj)) ?_;rw[jo];exact hv.2
def afu(T:Th):∀(σ:List (Nat×Bool)) (l ns:List V) (v:V),v∈T.wu σ l ns->v∈ns\/∃w∈l,v=T.img w
 |[],l,ns,v,h=>.inl (by simpa only[Th.wu]using h)
 |s::σ,[],ns,v,h=>.inl (by simpa only[Th.wu]using h)
 |s::σ,w::l,ns,v,h=>by
  simp only[Th.wu]at h;rcases afu T σ l _ v h with h|⟨x,hx,e⟩
  .cases hb:(uX w||!s.2)with
   |true=>rw[hb]at h;exact .inl h
   |false =>
    rw[hb]at h;simp only[cond_false]at h;rcases List.mem_or_eq_of_mem_set h with h|h
    .exact .inl h
    .exact .inr ⟨w,bZ,h⟩
  .exact .inr ⟨x,bW _ hx,e⟩
def ayl(T:Th){l:List V}{M:Nat}(hl:∀v∈l,uX v=true\/ahY l.length v=true)(hA:∀j,j<l.length->T.zV j<M)(hM:T.ns.length<=M)(hns:∀v∈T.ns,vJ [v,jn T.ns.length]=some (.bool true)):∀v∈T.G l,vJ [v,jn M]=some (.bool true):=λv hv=>by
 unfold Th.G at hv;rcases dH.1 hv with hv|hv
 .rcases afu T _ _ _ v hv with hv|⟨w,hw,rfl⟩
  .exact amm (hns v hv) hM
  .exact aeW T (hl w hw) hA
 .obtain⟨w,hw,rfl⟩:=kC.1 hv;exact aeW T (hl w (List.mem_of_mem_drop hw)) hA
def an6{T:Th}{l0 l ns nU:List V}(h1:T.ns=ns)(h2:T.σ.length=l0.length)(h3:nU=T.G l)(hl0:l0.length<=l.length)(hl:∀v∈l,uX v=true\/ahY l.length v=true)(hns:∀v∈ns,vJ [v,jn ns.length]=some (.bool true)):∀v∈nU,vJ [v,jn nU.length]=some (.bool true):=by
 subst h3 h1;rw[Ed];exact ayl T hl (λj hj=>Cm T (by omega) hj) (by omega) hns
def enB(l:List V)(j:Nat):Bool:=match kU l 2 j with|some _=>true|none=>false
def Vm{l:List V}{j:Nat}(h:enB l j=true):∃q,kU l 2 j=some q:=by
 unfold enB at h;cases hq:kU l 2 j with
 |none=>rw[hq]at h;cases h
 |some q=>exact⟨q,rfl⟩
def Yp(l:List V):List Nat->Bool
 |[]=>true
 |b::js=>enB l b&&Yp l js
def OV{l:List V}:∀{js:List Nat},Yp l js=true->∀b∈js,∃q,kU l 2 b=some q
 |[],_,b,hb=>by simp at hb
 |a::js,h,b,hb=>by
  simp only[Yp,ah]at h;rcases bU.1 hb with rfl|hb
  .exact Vm h.1
  .exact OV h.2 b hb
def kdB(l:List V)(v:V):Bool:=match gV v with
 |some (_,_,_,ks)=>(match jr 1000 ks with|some js=>Yp l js|none=>true)
 |none=>true
def okB(l:List V):Nat->List V->Bool
 |_,[]=>true
 |j,v::r=>(uX v||(enB l j&&kdB l v))&&okB l (j+1) r
def adi{l:List V}:∀{r:List V} {i:Nat},okB l i r=true->∀(j:Nat) (v:V),r[j]?=some v->uX v=false->enB l (i+j)=true/\kdB l v=true
 |[],i,_,j,v,hj,_=>by simp at hj
 |w::r,i,h,0,v,hj,hu=>by
  simp at hj;subst hj;simp only[okB,hu,Bool.false_or,ah]at h;exact h.1
 |w::r,i,h,j+1,v,hj,hu=>by
  simp only[okB,ah]at h;have:=adi h.2 j v (by simpa using hj) hu
  rwa[show i+1+j=i+(j+1) by omega]at this
def rgB(l:List V):Nat->Bool
 |0=>true
 |d+1=>enB l d&&rgB l d
def adw{l:List V}:∀{D d:Nat},rgB l D=true->d<D->enB l d=true
 |0,d,_,hd=>by omega
 |D+1,d,h,hd=>by
  simp only[rgB,ah]at h;rcases dP d D with hd2|hd2
  .exact adw h.2 hd2
  .have:d=D:=by omega
   subst this;exact h.1
def aw1{D:Nat}{l:List V}(h2:okB l 0 l=true):OkV D l where
 lv j v hj hu:=by
  have:=(adi h2 j v hj hu).1;rw[iF]at this;exact Vm this
 kd j k n nm ks js hj hk b hb:=by
  have:=(adi h2 j _ hj (Ql _ _ _ _)).2;unfold kdB at this;rw[eG]at this;dsimp only at this;rw[hk]at this;exact OV this b hb
def TW(m:Nat):List V->Bool
 |[]=>true
 |v::l=>(uX v||ahY m v)&&TW m l
def ZP{m:Nat}:∀{l:List V},TW m l=true->∀v∈l,uX v=true\/ahY m v=true
 |[],_,v,hv=>by simp at hv
 |w::l,h,v,hv=>by
  simp only[TW,ah,gQ]at h;rcases bU.1 hv with rfl|hv
  .exact h.1
  .exact ZP h.2 v hv
end Go.Vx
