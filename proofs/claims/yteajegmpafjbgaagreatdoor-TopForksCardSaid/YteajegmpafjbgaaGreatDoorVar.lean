/- A part of the proof of TopForks. -/
import Derived.Test.YteajegmpafjbgaaGreatDoorVaq
set_option linter.all false
set_option maxRecDepth 1000000
set_option maxHeartbeats 80000000
noncomputable section
open Go Go.RowKit
namespace Go.Vx
def Qd{n:Nat}:∀{l:List Nat},uz n l=true->n∈l
 |[],h=>by simp[uz]at h
 |x::l,h=>by
  simp only[uz,gQ]at h;rcases h with h|h
  .rw[aP h];exact bZ
  .exact bW _ (Qd h)
def LK(l:List V):List Nat->List Nat
 |[]=>[]
 |b::js=>match kU l 2 b with|some q=>q::LK l js|none=>LK l js
def FN{l:List V}:∀{js:List Nat} {q:Nat},q∈LK l js->∃b∈js,kU l 2 b=some q
 |[],q,h=>by simp[LK]at h
 |b::js,q,h=>by
  simp only[LK]at h;cases hb:kU l 2 b with
  |none =>
   rw[hb]at h;obtain⟨a,h1,h2⟩:=FN h;exact⟨a,bW _ h1,h2⟩
  |some x =>
   rw[hb]at h;rcases bU.1 h with rfl|h
   .exact⟨b,bZ,hb⟩
   .obtain⟨a,h1,h2⟩:=FN h;exact⟨a,bW _ h1,h2⟩
def al2(l:List V)(q:Nat):List Nat:=match skip q l with
 |[]=>[]
 |v::_=>match gV v with
  |some (_,_,_,ks)=>(match jr 1000 ks with|some js=>js|none=>[])
  |none=>[]
def ahB{l:List V}{q b:Nat}(h:b∈al2 l q):∃k n nm ks js,l[q]?=some (nd k n nm ks)/\jr 1000 ks=some js/\b∈js:=by
 unfold al2 at h;cases h1:skip q l with
 |nil=>rw[h1]at h;simp at h
 |cons v rest =>
  rw[h1]at h;dsimp only at h;cases h2:gV v with
  |none=>rw[h2]at h;simp at h
  |some p =>
   obtain⟨k,n,nm,ks⟩:=p;rw[h2]at h;dsimp only at h;cases h3:jr 1000 ks with
   |none=>rw[h3]at h;simp at h
   |some js=>rw[h3]at h;exact⟨k,n,nm,ks,js,by rw[(qM h1).2,jV h2],h3,h⟩
def rqM(l:List V):Nat->List Nat->List Nat->List Nat
 |0,_,seen=>seen
 |_+1,[],seen=>seen
 |f+1,q::todo,seen=>bif uz q seen then rqM l f todo seen else rqM l f (LK l (al2 l q)++todo) (q::seen)
def adF{l:List V}{D:Nat}{pl:List Nat}:∀(f:Nat) (todo seen:List Nat),(∀q∈todo,Rq l D pl q)->(∀q∈seen,Rq l D pl q)->∀q∈rqM l f todo seen,Rq l D pl q
 |0,todo,seen,_,h,q,hq=>h q hq
 |f+1,[],seen,_,h,q,hq=>h q hq
 |f+1,a::todo,seen,ht,hs,q,hq=>by
  have ha:=ht a bZ;have ht2:∀q∈todo,Rq l D pl q:=λq hq=>ht q (bW _ hq);simp only[rqM]at hq;cases hb:uz a seen with
  |true=>rw[hb]at hq;exact adF f todo seen ht2 hs q hq
  |false =>
   rw[hb]at hq;refine adF f _ _ (λx hx=>?_) (λx hx=>?_) q hq
   .rcases dH.1 hx with hx|hx
    .obtain⟨b,hb,hx⟩:=FN hx;obtain⟨k,n,nm,ks,js,h1,h2,h3⟩:=ahB hb;exact .kid ha h1 h2 h3 hx
    .exact ht2 x hx
   .rcases bU.1 hx with rfl|hx
    .exact ha
    .exact hs x hx
def aas(l:List V)(seen:List Nat):Nat->Bool
 |0=>true
 |j+1=>(match kU l 2 j with|some q=>uz q seen|none=>true)&&aas l seen j
def aat{l:List V}{seen:List Nat}:∀{n j q:Nat},aas l seen n=true->j<n->kU l 2 j=some q->q∈seen
 |0,j,q,_,h,_=>by omega
 |n+1,j,q,h,hj,hq=>by
  simp only[aas,ah]at h;rcases dP j n with h2|h2
  .exact aat h.2 h2 hq
  .have:j=n:=by omega
   subst this;have h1:=h.1;rw[hq]at h1;exact Qd h1
def aAs{l:List V}{D:Nat}{pl:List Nat}{f:Nat}(h:aas l (rqM l f (LK l (List.range D++pl)) []) l.length=true):∀j q,kU l 2 j=some q->Rq l D pl q:=λj q hq=>by
 obtain⟨_,_,_,_,hl,_⟩:=IG hq;have hj:=(fB.1 hl).1;refine adF f _ _ (λx hx=>?_) (λx hx=>by simp at hx) q (aat h hj hq);obtain⟨b,hb,hx⟩:=FN hx;rcases dH.1 hb with hb|hb
 .exact .nm (dh.1 hb) hx
 .exact .pl hb hx
def intD(v:V):Int:=match v with|.int _ n=>n|_=>0
def strD(v:V):List Nat:=match v with|.str s=>s|_=>[]
def atD(v:V):Nat:=match Hl v with|some j=>j|none=>ah4 v
def ZU(v:V):Bool:=match v with|.aj=>true|_=>false
def apy(v:V):List Nat:=bif ZU v then[]else match v with|.list xs _=>(match DI xs with|some js=>js|none=>[])|_=>[]
def XQ{v:V}(h:ZU v=true):apy v=[]:=by unfold apy;rw[h];rfl
def frD(v:V):Ls:=match v with
 |.agg cs=>⟨ah4 (aA cs 0),atD (aA cs 1),intD (aA cs 2),strD (aA cs 3),intD (aA cs 4),ZU (aA cs 5),apy (aA cs 5),XQ⟩
 |_=>⟨0,0,0,[],0,true,[],λ_=>rfl⟩
def koD(v:V):Nat×Nat:=match v with|.agg cs=>(ah4 (aA cs 0),atD (aA cs 1))|_=>(0,0)
def V5{α:Type}(f:V->α)(v:V):List α:=bif ZU v then[]else(Nj v).map f
def PU{α:Type}{f:V->α}{v:V}(h:ZU v=true):V5 f v=[]:=by unfold V5;rw[h];rfl
def thD(x:List V):AV:=⟨ah4 (aA x 0),intD (aA x 1),ZU (aA x 2),apy (aA x 2),atD (aA x 3),ZU (aA x 4),V5 frD (aA x 4),ZU (aA x 5),V5 koD (aA x 5),atD (aA x 8),intD (aA x 9),intD (aA x 10),XQ,PU,PU⟩
def akx(D:Nat)(s:Ks):Bool :=
 okB s.l 0 s.l&&(Au s.x (thN (thD s.x))&&(Nat.ble (thD s.x).st.length 1000&&(Nat.ble (thD s.x).ko.length 1000&&(Nat.ble (G7 (thD s.x)).length 800&&(Yp s.l (G7 (thD s.x))&&aas s.l (rqM s.l 2000 (LK s.l (List.range D++G7 (thD s.x))) []) s.l.length)))))
def ap3{D:Nat}{s:Ks}(h:akx D s=true):auZ D s (thD s.x):=by
 unfold akx at h;simp only[ah,jg]at h;obtain⟨h2,h3,h4,h5,h6,h7,h8⟩:=h;exact⟨aw1 h2,Ac h3,⟨h4,h5,by omega⟩,h6,OV h7,aAs h8⟩
section
variable {Y:Rws}{P:Nat->Nat}{cn:Nat}{os:List Nat}{ns xs:List V}{A:Nat->Nat->Nat}{ow:Nat->Nat->Bool}{c:V}{t:Nat}
theorem PN(hY:wz Y)(hI:Oh Y P cn ns xs A ow)(hcn:cn<=1000):ns.length+60<=100000/\wX (Int.ofNat (ns.length+50)) Y.C.most=true:=by
 have htot:=XF hI.le;have hDc:Y.C.D*cn<=Y.C.D*1000:=Nat.mul_le_mul_left _ hcn;refine⟨by have:=hI.len;have:=hY.room;omega,?_⟩;have h1:=hY.most;have h2:=hI.len;rw[vH]at h1|-;simp only[decide_eq_true_eq,lJ]at h1|-;omega
theorem LW(hY:wz Y)(hI:Oh Y P cn ns xs A ow):xs.length<=Y.n+1:=by
 rw[hI.m];exact hY.mkn _ (hI.le 0 (eX _))
theorem aAp{D:Nat}{B:Nat->Nat}{pw:Nat->Bool}{l:List V}{o p:V}(hv:Vw D B pw l ns)(hok:wB ns=true)(hroom:ns.length+60<=100000){v:V}(hin:yA l.length v=true):sub (jI hv hok hroom false xs o p).ro v=sub (rA B) v:=by
 rw[ZQ hin];exact awc (L:=l.length) (λj hj=>wF hj) hin
theorem aer(hY:wz Y)(hI:Oh Y P cn ns xs A ow)(hcn:cn<=1000)(hc:pf c=c)(ht:t<xs.length){f:Nat}{v:V}{more:List V}(hmp:pJ more=true)(hmf:aW more=true)(hv:nX v=true)(hf:aO v=true)
  (hrun:nY (nZ (TY (Y.R t (P t)).l Y.C.D Y.C.most (RN Y.C)) oC 1000000 (.call f (JK Y.C (Y.R t (P t)).l (D6 t (Y.R t (P t)).x 0 xs.length) XM::more)) zW bx0 emp) v=true) :
  EvB f (Ir Y os ns xs c::more) v:=by
 obtain⟨hroom,hM⟩:=PN hY hI hcn;obtain⟨X,hX,hA⟩:=hI.ats t ht;obtain⟨hof,hop,how⟩:=Dk os;have hC:=hY.cst;have hx0:xs[t]?=some (.agg (subs (rA (A t)) (Y.R t (P t)).x)):=by rw[hX,hA.x]
 have hsx:subs (jI hA.vw hI.gn hroom false xs (oV os) c).ro (Y.R t (P t)).x=subs (rA (A t)) (Y.R t (P t)).x:=by
  have h1:yA (Y.R t (P t)).l.length (.agg (Y.R t (P t)).x)=true:=by simpa[yA]using hA.inx
  have h2:=aAp (xs:=xs) (o:=oV os) (p:=c) hA.vw hI.gn hroom h1;simp only[sub,V.agg.injEq]at h2;exact h2
 have hts:=JG (ρ:=(jI hA.vw hI.gn hroom false xs (oV os) c).ro) (x:=(Y.R t (P t)).x) (t:=t) hI.thc (by rw[hsx];exact hx0) (λu i _=>rfl) xs.length 0 (by omega);rw[rG]at hts;have hO:sub (jI hA.vw hI.gn hroom false xs (oV os) c).ro XM=oV os:=by
  rw[XM,sy,nD];exact Ul hop hof
 have:=UW (n:=1000000) (f:=f) (more:=more) hC.ops hC.defs hC.YR hC.O8 hC.chk hA.vw hI.gn hroom hM (Oj hI.thc) hts hc hO hof hmp hmf hrun hf;rw[nC _ hv]at this;exact this
def ru:V:=nd 2 0 [85,110,105,116] .aj
theorem aod(hY:wz Y)(hI:Oh Y P cn ns xs A ow)(hcn:cn<=1000)(ht:t<xs.length){q:Nat}(hq:(Y.R t (P t)).l[q]?=some ru){va vb:V}{s:List Nat}(hf:aO (.tuple [.str s,va,vb])=true)
  (hrun:nY (nZ (TY [ru] 0 Y.C.most (RN Y.C)) oC 1000000 (.call 30 [.agg [Y.C.ops,Y.C.defs],.agg [sy (.iE [ru]),.int .i64 Y.C.most],ad 0,jn 3,.int .i64 Y.C.deep,jn 500]) zW bx0 emp) (.tuple [.str s,va,vb])=true) :
  ∃ua ub,EvB 30 [.agg [Y.C.ops,Y.C.defs],.agg [.list ns false,.int .i64 Y.C.most],jn (A t q),jn 3,.int .i64 Y.C.deep,jn 500] (.tuple [.str s,ua,ub]):=by
 obtain⟨hroom,hM⟩:=PN hY hI hcn;obtain⟨X,hX,hA⟩:=hI.ats t ht;have hC:=hY.cst;have hv:Vw 0 (λ_=>A t q) (λ_=>true) [ru] ns:=by
  have hql:q<(Y.R t (P t)).l.length:=lu hq;refine⟨λd hd=>by omega,by simp,λi j v w hi _ _ hj _ _ _=>?_,λj hj=>hA.vw.low q hql,λj v hj hu=>?_⟩
  .have h1:i=0:=by have:=lu hi;simpa using this
   have h2:j=0:=by have:=lu hj;simpa using this
   omega
  .have h1:j=0:=by have:=lu hj;simpa using this
   subst h1;simp at hj;subst hj;refine⟨rfl,rfl,.inl ⟨rfl,?_⟩⟩;obtain⟨_,_,h3⟩:=hA.vw.node q _ hq rfl;rcases h3 with⟨_,h3⟩|⟨_,n,nm,b,e,h3,_⟩
   .rw[h3];simp only[ru,nd,sub,subs]
   .simp only[ru,nd,V.agg.injEq,gu]at h3;cases h3.2.2.2.1
 have hp2:=aAp (v:=ad 0) (xs:=xs) (o:=oV []) (p:=.aj) hv hI.gn hroom rfl;rw[show sub (rA λ_=>A t q) (ad 0)=jn (A t q)from MC _]at hp2;have hhp:sub (jI hv hI.gn hroom false xs (oV []) .aj).ro (sy (.iE [ru]))=.list ns false:=by
  rw[sy,nD];show V.list ((jI hv hI.gn hroom false xs (oV []) .aj).G [ru]) false=_;rw[ajs]
 have hargs:subs (jI hv hI.gn hroom false xs (oV []) .aj).ro [.agg [Y.C.ops,Y.C.defs],.agg [sy (.iE [ru]),.int .i64 Y.C.most],ad 0,jn 3,.int .i64 Y.C.deep,jn 500]=[.agg [Y.C.ops,Y.C.defs],.agg [.list ns false,.int .i64 Y.C.most],jn (A t q),jn 3,.int .i64 Y.C.deep,jn 500]:=by
  simp only[subs,sub,nC _ hC.ops,nC _ hC.defs,hhp,hp2,jn]
 have avU:aW [.agg [Y.C.ops,Y.C.defs],.agg [.list ns false,.int .i64 Y.C.most],jn (A t q),jn 3,.int .i64 Y.C.deep,jn 500]=true:=by
  have f1:=(zy hI.gn).2;simp only[aW,aO,hC.YR,hC.O8,f1,jn,aU]
 have:=evK (jI hv hI.gn hroom false xs (oV []) .aj) (l0:=[ru]) (D:=0) (M:=Y.C.most) (abW:=RN Y.C) amr hM (atZ hC.ops hC.defs hC.chk) hrun (by rw[hargs];exact avU) (Et _ hf);rw[hargs]at this;simp only[sub,subs]at this;exact⟨_,_,this⟩
def nsA(a:List V):List V:=Nj (aA (cellsD (aA a 0)) 2)
def amu(a:List V):Nat:=ah4 (aA (cellsD (aA a 0)) 3)
open Classical in
def colS(a:List V):Option V:=if qN Go.Proofs.Tryz.prog vZ (mmG (nsA a) false (amu a))then(lim (mmG (nsA a) false (amu a)) Tab.fns 28 a).map dV else none
theorem abe{f:Nat}{a:List V}{o:Option V}{v:V}(h:∀u,o=some u->Ans f a u)(hv:o.map dV=some v):Ans f a v:=by
 cases o with
 |none=>cases hv
 |some u=>cases hv;exact(h u rfl).weak (Wk.wk u)
theorem ap5{a:List V}{v:V}(h:colS a=some v):Ans 28 a v:=by
 unfold colS at h
 split at h
 .rename_i hm;exact abe (λu hu=>(tH hu).ans (Tab.pY hm)) h
 .cases h
theorem ap4{most:Nat}{rR:V}(Ez:Y.C.most=Int.ofNat most)(hm:qN Go.Proofs.Tryz.prog vZ (mmG ns false most))(h:EvA (mmG ns false most) Tab.fns 28 [Ir Y os ns xs c] rR):colS [Ir Y os ns xs c]=some (dV rR):=by
 have h1:nsA [Ir Y os ns xs c]=ns:=rfl;have h2:amu [Ir Y os ns xs c]=most:=by
  show ah4 (.int .i64 Y.C.most)=most;rw[Ez];rfl
 unfold colS;rw[h1,h2,if_pos hm,AO h];rfl
end
def agI{ev:V}(h:Yy ev=true):∃k b c:Nat,ev=.agg [jn k,jn b,jn c]/\k≠3/\k≠4/\k≠5:=by
 unfold Yy at h;cases ev<;>first|(cases h;done)|skip
 rename_i l
 match l,h with
 |[],h=>cases h
 |[_],h=>cases h
 |[_,_],h=>cases h
 |_::_::_::_::_,h=>cases h
 |[a,b,c],h =>
  dsimp only at h;cases h1:jw a with
  |none=>rw[h1]at h;cases h
  |some k =>
   rw[h1]at h;dsimp only at h;cases h2:jw b with
   |none=>rw[h2]at h;cases h
   |some b' =>
    rw[h2]at h;dsimp only at h;cases h3:jw c with
    |none=>rw[h3]at h;cases h
    |some c' =>
     rw[h3]at h;simp only[ah,fQ]at h;refine⟨k,b',c',by rw[kH h1,kH h2,kH h3];rfl,?_,?_,?_⟩
     .rintro rfl;exact absurd h.1.1 (by decide)
     .rintro rfl;exact absurd h.1.2 (by decide)
     .rintro rfl;exact absurd h.2 (by decide)
section
def mY(f:Nat):Option bF:=bif Nat.beq f 84 then none else bif Nat.beq f 73 then none else bif Nat.beq f 91 then none else oC f
def thK(k u:Nat):V:=.agg [jn k,sy (.tuple [jn u,jn 1]),sy (.tuple [jn u,jn 2]),sy (.tuple [jn u,jn 3]),sy (.tuple [jn u,jn 4]),sy (.tuple [jn u,jn 5]),sy (.tuple [jn u,jn 6]),sy (.tuple [jn u,jn 7]),sy (.tuple [jn u,jn 8]),sy (.tuple [jn u,jn 9]),sy (.tuple [jn u,jn 10])]
def pats:List Bool->Nat->List V
 |[],_=>[]
 |b::bs,u=>thK (bif b then 1 else 3) u::pats bs (u+1)
def runs:List Bool->Nat->List Nat
 |[],_=>[]
 |b::bs,u=>bif b then u::runs bs (u+1)else runs bs (u+1)
def wP(bs:List Bool):V:=.agg [sy (.str [0]),sy (.str [1]),sy (.str [2]),sy (.str [3]),sy (.str [4]),sy (.str [5]),sy (.str [6]),.list (pats bs 0) false,sy (.str [8])]
def avo(bs:List Bool):jZ:=nZ GH mY 1000 (.call 72 [wP bs]) zW bx0 emp
def v1(bs:List Bool):V:=match avo bs with|.val v _=>v|_=>.undef
def hh1(bs:List Bool):H:=match avo bs with|.val _ h=>h|_=>emp
def avp(bs:List Bool):jZ:=nZ GH mY 1000 (.call 83 [v1 bs]) zW bx0 (hh1 bs)
def v2(bs:List Bool):V:=match avp bs with|.val v _=>v|_=>.undef
def hh2(bs:List Bool):H:=match avp bs with|.val _ h=>h|_=>emp
def isV(o:jZ):Bool:=match o with|.val _ _=>true|_=>false
def aCT(v:V):Nat:=match v with|.hsl id _ _ _ _=>id|_=>0
def aun(v:V)(len:Nat):Bool:=match v with|.hsl _ off l c sz=>Nat.beq off 0&&Nat.beq l len&&eqO c none&&Nat.beq sz 1|_=>false
def isFn(v:V):Bool:=match v with|.func _ _ _=>true|_=>false
def pkB(bs:List Bool):Bool:=isFn (v1 bs)&&isV (avo bs)&&isV (avp bs)&&aun (v2 bs) (runs bs 0).length&&(match getCells (hh2 bs) (aCT (v2 bs))with|some cs=>wL cs ((runs bs 0).map jn)|none=>false)
end
def ae0{o:jZ}(h:isV o=true):∃v g,o=.val v g:=by cases o<;>first|(cases h;done)|exact⟨_,_,rfl⟩
def rP(W:V)(xs:List V)(p:V):V:=match p with
 |.str s=>(match s with|[u]=>pf (aA (cellsD W) u)|_=>.int .i64 (.ofNat 0))
 |.tuple ps=>(match ps with
  |[a,b]=>(match jw a with
   |some u=>(match jw b with
    |some i=>pf (aA (cellsD (aA xs u)) i)
    |none=>.int .i64 (.ofNat 0))
   |none=>.int .i64 (.ofNat 0))
  |_=>.int .i64 (.ofNat 0))
 |_=>.int .i64 (.ofNat 0)
instance aBR (W:V)(xs:List V):Good (rP W xs) where
 plain p:=by
  unfold rP
  repeat' split
  all_goals first|exact ES _|rfl
 flat p:=by
  unfold rP
  repeat' split
  all_goals first|exact Gl _|rfl
def asV{ρ:V->V}[Good ρ]{xs:List V}{k u:Nat}{X:V}(hX:xs[u]?=some X)(hc:ThC X)(h2:aA (cellsD X) 0=jn k)(ho:∀i,ρ (.tuple [jn u,jn i])=pf (aA (cellsD (aA xs u)) i)):sub ρ (thK k u)=X:=by
 obtain⟨cs,rfl,hl,hp⟩:=hc;rw[kZ hX]at ho;have hc:∀i,i<11->ρ (.tuple [jn u,jn i])=aA cs i:=by
  intro i hi;rw[ho i];have hmem:aA cs i∈cs:=by
   have h1:cs[i]?=some cs[i]:=bV (by omega);rw[kZ h1];exact ku _
  exact Ul (hp _ hmem).1 (hp _ hmem).2
 have h3:sub ρ (jn k)=jn k:=by simp only[jn,sub]
 simp only[thK,sub,subs,sy,h3,hc 1 (by omega),hc 2 (by omega),hc 3 (by omega),hc 4 (by omega),hc 5 (by omega),hc 6 (by omega),hc 7 (by omega),hc 8 (by omega),hc 9 (by omega),hc 10 (by omega)]
 match cs,hl with
 |[a0,a1,a2,a3,a4,a5,a6,a7,a8,a9,a10],_ =>
  have:a0=jn k:=h2;subst this;rfl
def aae{W:V}{xs:List V}(hxs:∀X∈xs,ThC X):∀(bs:List Bool) (u:Nat),u+bs.length=xs.length->(∀i b X,bs[i]?=some b->xs[u+i]?=some X->aA (cellsD X) 0=jn (bif b then 1 else 3))->subs (rP W xs) (pats bs u)=xs.drop u
 |[],u,h,_=>by rw[pats,Fa,List.drop_eq_nil_of_le (by simpa using Nat.le_of_eq h.symm)]
 |b::bs,u,h,hk=>by
  have hu:u<xs.length:=by simp at h;omega
  have h1:xs[u]?=some xs[u]:=bV hu;rw[pats,xw,aae hxs bs (u+1) (by simp at h|-;omega) (λi b X h1 h2=>hk (i+1) b X (by simpa using h1) (by rw[show u+(i+1)=u+1+i by omega];exact h2)),uM hu];congr 1;exact asV h1 (hxs _ (ku _)) (hk 0 b xs[u] rfl (by simpa using h1)) (λi=>rfl)
def axH{a0 a1 a2 a3 a4 a5 a6 a8:V}{xs:List V}{bs:List Bool}(hxs:∀X∈xs,ThC X)(hl:bs.length=xs.length)(hk:∀(i:Nat) (b:Bool) (X:V),bs[i]?=some b->xs[i]?=some X->aA (cellsD X) 0=jn (bif b then 1 else 3))
  (hp:∀v∈[a0,a1,a2,a3,a4,a5,a6,a8],pf v=v):subs (rP (.agg [a0,a1,a2,a3,a4,a5,a6,.list xs false,a8]) xs) [wP bs]=[.agg [a0,a1,a2,a3,a4,a5,a6,.list xs false,a8]]:=by
 have hq:=aae (W:=.agg [a0,a1,a2,a3,a4,a5,a6,.list xs false,a8]) hxs bs 0 (by omega) (λi b X h1 h2=>hk i b X h1 (by rwa[iF]at h2));rw[rG]at hq;have hr:∀i,rP (.agg [a0,a1,a2,a3,a4,a5,a6,.list xs false,a8]) xs (.str [i])=pf (aA [a0,a1,a2,a3,a4,a5,a6,.list xs false,a8] i):=λi=>rfl;have g0:=hp a0 (by simp);have g1:=hp a1 (by simp);have g2:=hp a2 (by simp);have g3:=hp a3 (by simp);have g4:=hp a4 (by simp);have g5:=hp a5 (by simp);have g6:=hp a6 (by simp);have g8:=hp a8 (by simp);simp only[wP,subs,sub,sy,hq,hr,kG,iL,g0,g1,g2,g3,g4,g5,g6,g8];rfl
def axa{a b:Nat}(hb:Nat.beq b 0=false):nM (.int .i64 (.ofNat a)) (.int .i64 (.ofNat b))=some (.int .i64 (.ofNat (a%b))):=by
 have h1:sK (.ofNat b) 0=false:=hb;simp only[nM,h1,eqK,Bool.not_true,Bool.or_self,cond_false];rfl
def D5:eF:=λf=>bif Nat.beq f 84 then some ⟨λa=>(lim mmB oC 84 a).map dV⟩else bif Nat.beq f 73 then some ⟨lim mmB oC 73⟩else bif Nat.beq f 91 then some ⟨lim mmB oC 91⟩else none
def WA:qN Go.Proofs.Tryz.prog vZ D5:=λf a v hv=>by
 unfold ay D5 at hv;cases h1:Nat.beq f 84 with
 |true =>
  rw[h1]at hv;rw[aP h1];exact abe (o:=lim mmB oC 84 a) (λu hu=>(tH hu).ans (asB Vr)) hv
 |false =>
  rw[h1]at hv;cases h2:Nat.beq f 73 with
  |true=>rw[h2]at hv;rw[aP h2];exact(tH (show lim mmB oC 73 a=some v from hv)).ans (asB Vr)
  |false =>
   rw[h2]at hv;cases h3:Nat.beq f 91 with
   |true=>rw[h3]at hv;rw[aP h3];exact(tH (show lim mmB oC 91 a=some v from hv)).ans (asB Vr)
   |false=>rw[h3]at hv;cases hv
def Jl{f:Nat}(h:f≠84)(h2:f≠73)(h3:f≠91)(a:List V):ay D5 f a=none:=by
 unfold ay D5;rw[iH h,iH h2,iH h3];rfl
def ams{a:List V}{v:V}(h:EvB 84 a v):ay D5 84 a=some (dV v):=by
 show(lim mmB oC 84 a).map dV=some (dV v);rw[AO h];rfl
def awJ{a:List V}{v:V}(h:EvB 73 a v):ay D5 73 a=some v:=by
 show lim mmB oC 73 a=some v;exact AO h
def awK{a:List V}{v:V}(h:EvB 91 a v):ay D5 91 a=some v:=by
 show lim mmB oC 91 a=some v;exact AO h
def Pn{f:Nat}{vf:bF}(h:mY f=some vf):oC f=some vf/\f≠84/\f≠73/\f≠91:=by
 unfold mY at h;cases hb:Nat.beq f 84 with
 |true=>rw[hb]at h;cases h
 |false =>
  rw[hb]at h;cases hc:Nat.beq f 73 with
  |true=>rw[hc]at h;cases h
  |false =>
   rw[hc]at h;cases hd:Nat.beq f 91 with
   |true=>rw[hd]at h;cases h
   |false=>rw[hd]at h;exact⟨h,(by rintro rfl;cases hb),(by rintro rfl;cases hc),by rintro rfl;cases hd⟩
def Pm{f:Nat}{vf:bF}(h:oC f=some vf):Tab.fns f=some vf:=by
 unfold oC at h;cases hc:Zh f with
 |true=>rw[hc]at h;cases h
 |false=>rw[hc]at h;exact h
def asC{mm:eF}(he:qN Go.Proofs.Tryz.prog vZ mm):∀n,Rz Go.Proofs.Tryz.prog vZ (runM mm mY n) :=
 Jv Tab.mixes he (λf vf hf=>(Tab.Tq f vf (Pm (Pn hf).1)).1) (λf vf hf=>(Tab.Tq f vf (Pm (Pn hf).1)).2) (λq hq=>by
  have:q=155:=by simpa[vZ]using hq
  subst this;exact NK)
def Qe{ρ:V->V}:yD ρ GH D5 mY where
 known f a v h:=by cases h
 bare f vf h:=by
  obtain⟨h1,h2,h3,h4⟩:=Pn h;exact⟨Jl h2 h3 h4,lV (IQ (Pm h1))⟩
def X8{ρ:V->V}[Good ρ]{mm mm':eF}{fns:Nat->Option bF}(hm:yD ρ mm mm' fns){n f:Nat}{a:List V}{v:V}{h h2:H}(he:nZ mm fns n (.call f a) zW bx0 h=.val v h2) :
  ∃N,∀m,N<=m->runM mm' fns m (.call f (subs ρ a)) [] [] (dG ρ h)=.val (sub ρ v) (dG ρ h2):=by
 obtain⟨N,hN⟩:=(E5 (mm:=mm) (fns:=fns) n).call he [] [];refine⟨N,λm hm2=>?_⟩;have h1:=(Xi hm m).go (.call f a) [] [] h;rw[hN m hm2]at h1;have h3:=h1 (by intro h;cases h);simp only[Ii,qA,subs]at h3;exact h3
def aw7{W:V}{xs:List V}{bs:List Bool}(hb:pkB bs=true)(hW:subs (rP W xs) [wP bs]=[W]) :
  ∃N agx g1 g2 id,(∀k,runM D5 mY (N+k) (.call 72 [W]) [] [] emp=.val agx g1) /\
   (∀k,runM D5 mY (N+k) (.call 83 [agx]) [] [] g1=.val (.hsl id 0 (runs bs 0).length none 1) g2)/\getCells g2 id=some ((runs bs 0).map jn)/\wo agx=false:=by
 simp only[pkB,ah]at hb;obtain⟨⟨⟨⟨h0,h1⟩,h2⟩,h3⟩,h4⟩:=hb;obtain⟨c,g1,e1⟩:=ae0 h1;have ec:v1 bs=c:=by unfold v1;rw[e1]
 have eg:hh1 bs=g1:=by unfold hh1;rw[e1]
 obtain⟨v,g2,e2⟩:=ae0 h2;have ev:v2 bs=v:=by unfold v2;rw[e2]
 have eg2:hh2 bs=g2:=by unfold hh2;rw[e2]
 rw[ev]at h3 h4;rw[eg2]at h4;obtain⟨N1,k1⟩:=X8 (ρ:=rP W xs) Qe (show nZ GH mY 1000 (.call 72 [wP bs]) zW bx0 emp=.val c g1 from e1);have e2:nZ GH mY 1000 (.call 83 [c]) zW bx0 g1=.val v g2:=by rw[<- ec,<- eg];exact e2
 obtain⟨N2,k2⟩:=X8 (ρ:=rP W xs) Qe e2;rw[hW]at k1;have hcl:wo (sub (rP W xs) c)=false:=by
  rw[ec]at h0;cases c<;>first|(cases h0;done)|skip
  simp only[sub];rfl
 cases v with
 |hsl id off l cp sz =>
  simp only[aun,ah]at h3;obtain⟨⟨⟨q1,q2⟩,q3⟩,q4⟩:=h3;have q1:=aP q1;have q2:=aP q2;have q4:=aP q4;have q3:cp=none:=by cases cp<;>first|rfl|cases q3
  subst q1;subst q2;subst q3;subst q4;have hcells:getCells (dG (rP W xs) g2) id=some ((runs bs 0).map jn):=by
   rw[lH];have h4:(match getCells g2 id with|some cs=>wL cs ((runs bs 0).map jn)|none=>false)=true:=h4;cases hg:getCells g2 id with
   |none=>rw[hg]at h4;cases h4
   |some cs =>
    rw[hg]at h4;rw[oU _ _ h4];have:∀l:List Nat,subs (rP W xs) (l.map jn)=l.map jn:=by
     intro l
     induction l with
     |nil=>simp[subs]
     |cons a l ih=>simp only[bD,subs,ih,jn,sub]
    simp only[bT,this]
  refine⟨N1+N2,sub (rP W xs) c,dG (rP W xs) g1,dG (rP W xs) g2,id,λk=>k1 _ (by omega),λk=>?_,hcells,hcl⟩;have:=k2 (N1+N2+k) (by omega);simp only[subs,sub]at this;exact this
 |_=>cases h3
def amX{a0 a1 a2 a3 a4 a5 a6 a8 b0 b1 b2 b3 b4 b5 b6 b7 b8:V}{xs:List V}{bs:List Bool}{n:Nat}{deep:Int}{t k b c:Nat}(hb:pkB bs=true)
  (hW:subs (rP (.agg [a0,a1,a2,a3,a4,a5,a6,.list xs false,a8]) xs) [wP bs]=[.agg [a0,a1,a2,a3,a4,a5,a6,.list xs false,a8]])
  (hL:runs bs 0≠[]) (ht:(runs bs 0)[n%(runs bs 0).length]?=some t) (hk3:k≠3)
  (hoa:bf [a0,a1,a2,a3,a4,a5,a6,.list xs false,a8]=true) (hob:bf [b0,b1,b2,b3,b4,b5,b6,b7,b8]=true)
  {rR:V} (hst:EvB 84 [.agg [a0,a1,a2,a3,a4,a5,a6,.list xs false,a8],jn t,.int .i64 deep] rR) (hrR:dV rR=.tuple [.agg [b0,b1,b2,b3,b4,b5,b6,b7,b8],.agg [jn k,jn b,jn c]])
  (hfl:aW [.agg [a0,a1,a2,a3,a4,a5,a6,.list xs false,a8],jn n,.int .i64 deep]=true) (hfr:aO (.tuple [.agg [b0,b1,b2,b3,b4,b5,b6,b7,b8],.agg [jn k,jn b,jn c]])=true)
  (hpl:∀h,qo (.tuple [.agg [b0,b1,b2,b3,b4,b5,b6,b7,b8],.agg [jn k,jn b,jn c]]) h=(.tuple [.agg [b0,b1,b2,b3,b4,b5,b6,b7,b8],.agg [jn k,jn b,jn c]],h)) :
  EvA D5 mY 29 [.agg [a0,a1,a2,a3,a4,a5,a6,.list xs false,a8],jn n,.int .i64 deep] (.tuple [.agg [b0,b1,b2,b3,b4,b5,b6,b7,b8],.agg [jn k,jn b,jn c]]):=by
 obtain⟨N,agx,g1,g2,id,h1,h2,hg,hcl⟩:=aw7 hb hW;have hstep:∀M fr lo h,runM D5 mY (M+1) (.call 84 [.agg [a0,a1,a2,a3,a4,a5,a6,.list xs false,a8],jn t,.int .i64 deep]) fr lo h=.val (.tuple [.agg [b0,b1,b2,b3,b4,b5,b6,b7,b8],.agg [jn k,jn b,jn c]]) h:=λM fr lo h =>
  dJ (by rw[ams hst,hrR])
 have hpos:0<(runs bs 0).length:=uN.2 hL;generalize hlen:(runs bs 0).length=r at *;have hr0:Nat.beq r 0=false:=iH (by omega);have hlt:n%r<r:=Nat.mod_lt _ hpos;have hblt:Nat.ble (n%r+1) r=true:=by simp;omega
 obtain⟨rest,hsk⟩:∃rest,skip (n%r) ((runs bs 0).map jn)=jn t::rest:=lD (by rw[iW,ht];rfl);generalize (runs bs 0).map jn=cells at *;have aCu:=axa (a:=n) hr0;have aB6:Nat.beq k 3=false:=iH hk3;have hev:nT (.agg [.int .i64 (.ofNat k),.int .i64 (.ofNat b),.int .i64 (.ofNat c)]) (.agg [.int .i64 (.ofNat k),.int .i64 (.ofNat b),.int .i64 (.ofNat c)])=true:=IK _ (by simp[aO,aW]);have hn0:Nat.ble (n+1) 0=false:=rfl;refine⟨hfl,hfr,N+300,λm hm=>⟨g2,?_⟩⟩;obtain⟨q,rfl⟩:∃q,m=(N+q)+300:=⟨m-300-N,by omega⟩;have h1:=λk=>(show runM D5 mY (N+q+k) (.call 72 [_]) [] [] emp=.val agx g1 by rw[gq];exact h1 (q+k));have h2:=λk=>(show runM D5 mY (N+q+k) (.call 83 [agx]) [] [] g1=.val (.hsl id 0 r none 1) g2 by rw[gq];exact h2 (q+k));generalize N+q=M0 at *;rw[bn (Jl (by decide) (by decide) (by decide) _) (show mY 29=some Tab.atg from rfl) rfl];simp only[bf,ah,cZ]at hoa hob;obtain⟨o0,o1,o2,o3,o4,o5,o6,o7,o8⟩:=hoa;obtain⟨p0,p1,p2,p3,p4,p5,p6,p7,p8⟩:=hob;unfold jn at *;simp -implicitDefEqProofs only[Tab.atg,WW,aS,aZ,aK,fG,pad,aC.ev,aC.evs,fJ,bG,aF,dA,eP,bH,splice,bC,takeN,skip,bf,bK,Nat.reduceAdd,Nat.beq,Nat.blt,Nat.ble,finish,resV,dI,mk,cO,dD,eH,eqK,nH,fU,gX,jU,OR.eU,yg,h1,h2,hg,hcl,hsk,aCu,hr0,hblt,hstep,aB6,hev,hpl,p0,p1,p2,p3,p4,p5,p6,p7,p8,Nat.mul_one]
section
def inK(bs:List Bool)(a:List V):Option V:=match a with
 |[w,t]=>(match jw t with
  |some u=>bif lZ w (wP bs)&&uz u (runs bs 0)then some (.bool false)else none
  |none=>none)
 |_=>none
def mmI(bs:List Bool):eF:=λf=>bif Nat.beq f 73 then some ⟨inK bs⟩else none
def tkB(bs:List Bool):Bool:=nY (nZ (mmI bs) mY 1000 (.call 27 [wP bs]) zW bx0 emp) (.tuple [wP bs,.aj])
end
def aqQ{bs:List Bool}{a:List V}{v:V}(h:inK bs a=some v):∃u,a=[wP bs,jn u]/\u∈runs bs 0/\v=.bool false:=by
 unfold inK at h
 match a,h with
 |[],h=>cases h
 |[_],h=>cases h
 |_::_::_::_,h=>cases h
 |[w,t],h =>
  dsimp only at h;cases h1:jw t with
  |none=>rw[h1]at h;cases h
  |some u =>
   rw[h1]at h;dsimp only at h;cases hb:lZ w (wP bs)&&uz u (runs bs 0)with
   |false=>rw[hb]at h;cases h
   |true =>
    rw[hb]at h;cases h;simp only[ah]at hb;exact⟨u,by rw[jv hb.1,kH h1];rfl,Qd hb.2,rfl⟩
def amn{W:V}{xs:List V}{bs:List Bool}(hW:subs (rP W xs) [wP bs]=[W])(hin:∀u∈runs bs 0,EvB 73 [W,jn u] (.bool false)):yD (rP W xs) (mmI bs) D5 mY where
 known f a v h:=by
  unfold ay mmI at h;cases h1:Nat.beq f 73 with
  |false=>rw[h1]at h;cases h
  |true =>
   rw[h1]at h;rw[aP h1];obtain⟨u,rfl,hu,rfl⟩:=aqQ (show inK bs a=some v from h);have e:subs (rP W xs) [wP bs,jn u]=[W,jn u]:=by
    rw[xw]at hW|-;simp only[subs,gu,and_true]at hW;simp only[hW,subs,jn,sub]
   rw[e];have:sub (rP W xs) (.bool false)=.bool false:=by simp only[sub]
   rw[this];exact awJ (hin u hu)
 bare f vf h:=by
  obtain⟨h1,h2,h3,h4⟩:=Pn h;exact⟨Jl h2 h3 h4,lV (IQ (Pm h1))⟩
def aoh{W:V}{xs:List V}{bs:List Bool}(hb:tkB bs=true)(hW:subs (rP W xs) [wP bs]=[W])(hin:∀u∈runs bs 0,EvB 73 [W,jn u] (.bool false))(hf:aO W=true) :
  EvA D5 mY 27 [W] (.tuple [W,.aj]):=by
 have e:sub (rP W xs) (.tuple [wP bs,.aj])=.tuple [W,.aj]:=by
  rw[xw]at hW;simp only[subs,gu,and_true]at hW;simp only[sub,subs,hW]
 have:=evS (amn hW hin) (show nY (nZ (mmI bs) mY 1000 (.call 27 [wP bs]) zW bx0 emp) (.tuple [wP bs,.aj])=true from hb) (by rw[hW];simp only[aW,hf,aU]) (by rw[e];simp only[aO,aW,hf,aU]);rw[hW,e]at this;exact this
section
def wtK(bs:List Bool)(a:List V):Option V:=match a with
 |[w,t]=>bif lZ w (wP bs)&&lZ t (jn 0)then some (.bool false)else none
 |_=>none
def mmW(bs:List Bool):eF:=λf=>bif Nat.beq f 91 then some ⟨wtK bs⟩else none
def qB(f:Nat)(b:Bool)(bs:List Bool):Bool:=nY (nZ (mmW bs) mY 1000 (.call f [wP bs]) zW bx0 emp) (.bool b)
def oeB(bs:List Bool):Bool:=nY (nZ GH mY 1000 (.call 26 [wP bs]) zW bx0 emp) (.bool true)
def WU(bs:List Bool):Bool:=match bs with
 |[]=>true
 |b::_=>bif b then pkB bs&&(tkB bs&&(qB 26 false bs&&qB 32 false bs))else oeB bs
end
def atI{bs:List Bool}{a:List V}{v:V}(h:wtK bs a=some v):a=[wP bs,jn 0]/\v=.bool false:=by
 unfold wtK at h
 match a,h with
 |[],h=>cases h
 |[_],h=>cases h
 |_::_::_::_,h=>cases h
 |[w,t],h =>
  dsimp only at h;cases hb:lZ w (wP bs)&&lZ t (jn 0)with
  |false=>rw[hb]at h;cases h
  |true =>
   rw[hb]at h;cases h;simp only[ah]at hb;exact⟨by rw[jv hb.1,jv hb.2],rfl⟩
def amo{W:V}{xs:List V}{bs:List Bool}(hW:subs (rP W xs) [wP bs]=[W])(hw:EvB 91 [W,jn 0] (.bool false)):yD (rP W xs) (mmW bs) D5 mY where
 known f a v h:=by
  unfold ay mmW at h;cases h1:Nat.beq f 91 with
  |false=>rw[h1]at h;cases h
  |true =>
   rw[h1]at h;rw[aP h1];obtain⟨rfl,rfl⟩:=atI (show wtK bs a=some v from h);have e:subs (rP W xs) [wP bs,jn 0]=[W,jn 0]:=by
    rw[xw]at hW|-;simp only[subs,gu,and_true]at hW;simp only[hW,subs,jn,sub]
   rw[e];have:sub (rP W xs) (.bool false)=.bool false:=by simp only[sub]
   rw[this];exact awK hw
 bare f vf h:=by
  obtain⟨h1,h2,h3,h4⟩:=Pn h;exact⟨Jl h2 h3 h4,lV (IQ (Pm h1))⟩
def auF{W:V}{xs:List V}{bs:List Bool}{f:Nat}{b:Bool}(hb:qB f b bs=true)(hW:subs (rP W xs) [wP bs]=[W])(hw:EvB 91 [W,jn 0] (.bool false))(hf:aO W=true):EvA D5 mY f [W] (.bool b):=by
 have e:sub (rP W xs) (.bool b)=.bool b:=by simp only[sub]
 have:=evS (amo hW hw) (show nY (nZ (mmW bs) mY 1000 (.call f [wP bs]) zW bx0 emp) (.bool b)=true from hb) (by rw[hW];simp only[aW,hf,aU]) (by rw[e];rfl);rw[hW,e]at this;exact this
def awZ{W:V}{xs:List V}{bs:List Bool}(hb:oeB bs=true)(hW:subs (rP W xs) [wP bs]=[W])(hf:aO W=true):EvA D5 mY 26 [W] (.bool true):=by
 have e:sub (rP W xs) (.bool true)=.bool true:=by simp only[sub]
 have:=evS (ρ:=rP W xs) Qe (show nY (nZ GH mY 1000 (.call 26 [wP bs]) zW bx0 emp) (.bool true)=true from hb) (by rw[hW];simp only[aW,hf,aU]) (by rw[e];rfl);rw[hW,e]at this;exact this
section
def yE:Nat->List (List Bool)
 |0=>[[]]
 |n+1=>[]::((yE n).map (List.cons true)++(yE n).map (List.cons false))
def BH:∀(m:Nat) (bs:List Bool),bs.length<=m->bs∈yE m
 |0,bs,h=>by
  have:bs=[]:=Bc.1 (by omega);subst this;simp[yE]
 |m+1,[],_=>by simp[yE]
 |m+1,b::bs,h=>by
  have h1:=BH m bs (by simpa using h);simp only[yE,bU,dH,kC];cases b with
  |true=>exact .inr (.inl ⟨bs,h1,rfl⟩)
  |false=>exact .inr (.inr ⟨bs,h1,rfl⟩)
def Ur(p:List Bool):List (List Bool)->Bool
 |[]=>true
 |bs::r=>WU (p++bs)&&Ur p r
def nJ{p:List Bool}:∀{l:List (List Bool)},Ur p l=true->∀bs∈l,WU (p++bs)=true
 |[],_,bs,h=>by simp at h
 |b::l,h,bs,hm=>by
  simp only[Ur,ah]at h;rcases bU.1 hm with rfl|hm
  .exact h.1
  .exact nJ h.2 bs hm
end
end Go.Vx
