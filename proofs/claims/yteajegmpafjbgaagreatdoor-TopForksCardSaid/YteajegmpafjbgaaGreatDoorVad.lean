/- A part of the proof of TopForks. -/
import Derived.OrdersIn
import Derived.Test.YteajegmpafjbgaaGreatDoorVac
set_option linter.all false
set_option maxRecDepth 1000000
set_option maxHeartbeats 80000000
noncomputable section
open Go Go.RowKit
namespace Go.Vx
section
variable {P:Program}{Hn:Hints}{comp:FuncId->Code->aN}{g g' g'':G}{σ σ' sJ:H}{w w' w'':World}{β β' β'':Nat->Option Nat}{lo lo':Lo}{fr fr':List V}{A A':Act}{B0:Nat}{ro:Option Nat}
def amC{T:Array Value}(h:Ap g β fr T):lW g (qK fr) T.toList:=by
 have hl:(qK fr).length=fr.length:=by
  clear h
  induction fr with
  |nil=>rfl
  |cons v vs ih=>simp[qK,ih]
 refine⟨by rw[hl];simpa using h.size,λi v x hv hx=>?_⟩;have hget:∀(fs:List V) (i:Nat),(qK fs)[i]?=(fs[i]?).map λv=>match v with|.aY _ _=>.undef|v=>v:=by
  intro fs
  induction fs with
  |nil=>intro i;simp[qK]
  |cons y ys ih =>
   intro i;cases i with
   |zero=>cases y<;>simp[qK]
   |succ i=>simp[qK,ih]
 rw[hget]at hv;cases hf:fr[i]? with
 |none=>rw[hf]at hv;cases hv
 |some u =>
  rw[hf]at hv;have hs:=h.slots i u x hf (by simpa using hx);cases u<;>simp at hv<;>subst hv<;>first|exact .undef _|exact hs
def Df.lt{r:Nat}:∀{ds:List Deferred},Df P B0 w ds->∀d∈ds,d.target=.collected r->r<w.heap.size
 |d::ds,h,d',hd,ht=>by
  rcases bU.1 hd with rfl|hd
  .rcases h.1 with⟨r',_,h1,h2,_⟩|⟨f,cap,h1,_⟩
   .rw[h1]at ht;cases ht;exact(eY.1 h2).1
   .rw[h1]at ht;cases ht
  .exact Df.lt h.2 d' hd ht
def ang{ih:Ih}(hcall:∀f args σ,qm P Hn f args σ (ih (.call f args) [] [] σ)){gop:Operand}{aqC:aC}{ps:Array Tmp}{assign body:Code}{f0:FuncId}(hg:bQ gop=some aqC)(hfl:flat assign=true/\flat body=true)
  (h:Sc P (aX P Hn) B0 g β σ lo fr A w) (hne:yO ih aqC ps.toList (aX P Hn f0 assign) (aX P Hn f0 body) fr lo σ≠.fail) :
  (Code.rangeFunc gop ps assign body).wpIn (Fw none) 0 P (kV P (aX P Hn) B0 g β σ w (yO ih aqC ps.toList (aX P Hn f0 assign) (aX P Hn f0 body) fr lo σ)) A w:=by
 have hrg:=Rs.ev h.s.f hg;unfold yO at hne|-;generalize hgv:aqC.ev fr=gv at hrg hne|-;cases gv<;>try (exact absurd rfl hne)
 rename_i fnv first caps;cases fnv<;>try (exact absurd rfl hne)
 rename_i q;dsimp only at hne|-;have azm:Rv g (.func (.func q) first caps) (A.eval gop):=hrg;generalize hX:A.eval gop=X at azm;cases azm with
 |@func _ fn' _ _ F C hfn h1 h2 h3 h4 =>
 cases hfn;have hF:lW g first F.toList:=⟨by simpa using h1,λi v w a b=>h3 i v w a (by simpa using b)⟩;have hC:lW g caps C.toList:=⟨by simpa using h2,λi v w a b=>h4 i v w a (by simpa using b)⟩;cases ho:ih (.call q (first++(.func (.yield σ.next) [] []::caps))) [] [] (σ.new (.loop ⟨0,none,qK fr,ps.toList,aX P Hn f0 assign,aX P Hn f0 body⟩))with
 |fail=>rw[ho]at hne;exact absurd rfl hne
 |norm _ _ _=>rw[ho]at hne;exact absurd rfl hne
 |jump _ _ _ _=>rw[ho]at hne;exact absurd rfl hne
 |val v3 σ3 =>
 rw[ho]at hne;refine wpIn_rangeFunc λfn _=>?_
 let L:Loop:={ state:=.ready,pending:=none,fn,tmps:=A.tmps,params:=ps,assign,body,defers:=w.heap.size }
 let w0:=w.alloc (.deferred (some []))
 let w1:=w0.alloc (.loop L)
 have hz0:w0.heap.size=w.heap.size+1:=by simp[w0]
 have hz1:w1.heap.size=w.heap.size+2:=by simp[w1,hz0]
 have hold:∀k,k<w.heap.size->w1.heap[k]?=w.heap[k]?:=λk hk=>(Below.heap_alloc w0 _ k (by omega)).trans (Below.heap_alloc w _ k hk);have ayY:w1.heap[w.heap.size]?=some (.deferred (some [])):=(Below.heap_alloc w0 _ _ (by omega)).trans (Go.World.alloc_heap_new w _);have avZ:w1.heap[w.heap.size+1]?=some (.loop L):=by have:=Go.World.alloc_heap_new w0 (.loop L);rw[hz0]at this;exact this
 have aCM:Rw P (aX P Hn) g σ w1:=(h.s.w.alloc _).alloc _;have hnl:¬Live g σ (w.heap.size+1):=λhl=>absurd (hl.lt h.s.w) (by omega);have hph:∀o,g.φ (w.heap.size+1) o=none:=λo=>h.s.w.pW (by omega) o;have hle1:=G.yJ (g:=g) (w.heap.size+1,0) (h.s.w.fresh _ (aJ _)).1;have hw1:Rw P (aX P Hn) (g.bind σ.next (w.heap.size+1,0)) (σ.new (.loop ⟨0,none,qK fr,ps.toList,aX P Hn f0 assign,aX P Hn f0 body⟩)) w1 :=
  aCM.add hnl hph ⟨L,avZ,rfl,rfl,(amC h.s.f).mono hle1,rfl,f0,rfl,rfl,hfl.1,hfl.2⟩
 have VQ:∀k,Live (g.bind σ.next (w.heap.size+1,0)) (σ.new (.loop ⟨0,none,qK fr,ps.toList,aX P Hn f0 assign,aX P Hn f0 body⟩)) k->k≠w.heap.size+1->Live g σ k:=by
  rintro k ⟨i,m,hi,hk⟩ hne'
  by_cases e:i=σ.next
  .subst e;simp at hk;exact absurd hk.1.symm hne'
  .rw[G.lX _ e]at hk;rw[H.rY]at hi;simp[Ne.symm e]at hi;exact⟨i,m,hi,hk⟩
 have hargs:lW (g.bind σ.next (w.heap.size+1,0)) (first++(.func (.yield σ.next) [] []::caps)) ((F++#[Value.func (.yield (w.heap.size+1)) #[] #[]])++C).toList:=by
  have hy:Rv (g.bind σ.next (w.heap.size+1,0)) (.func (.yield σ.next) [] []) (.func (.yield (w.heap.size+1)) #[] #[]):=.func (.yield (G.rV _ _ _)) rfl rfl (λi v w a _=>by simp at a) (λi v w a _=>by simp at a);simpa using(hF.mono hle1).append (.cons hy (hC.mono hle1))
 have hco:=hcall q _ _ _ _ w1 v3 σ3 hargs hw1 ho;have aBZ:((callFunc q ((F++#[Value.func (.yield (w.heap.size+1)) #[] #[]])++C)).run P w1=.ok (.enter q ((F++#[Value.func (.yield (w.heap.size+1)) #[] #[]])++C)) w1) /\
   CallsIn (Fw none) 0 P q ((F++#[Value.func (.yield (w.heap.size+1)) #[] #[]])++C) w1 λ|.returned x,w'=>xJ P Hn (g.bind σ.next (w.heap.size+1,0)) (σ.new (.loop ⟨0,none,qK fr,ps.toList,aX P Hn f0 assign,aX P Hn f0 body⟩)) w1 v3 σ3 x w'|_,_=>False:=by
  rcases hco with hco|⟨⟨b,k,c,hb,hnf⟩,_⟩
  .exact hco
  .exfalso;cases first with
   |nil=>simp at hb;exact hnf _ _ _ hb.1.symm
   |cons y ys =>
    cases ys with
    |nil=>simp at hb
    |cons z zs=>simp at hb
 obtain⟨hrun,avT⟩:=aBZ;unfold HY at hne|-;dsimp only at hne|-;cases hgl:getLoop σ3 σ.next with
 |none=>rw[hgl]at hne;exact absurd rfl hne
 |some lp3 =>
 rw[hgl]at hne;dsimp only at hne|-;generalize hq1:Nat.beq lp3.st 1=q1 at hne|-;cases q1 with
 |true=>exact absurd rfl hne
 |false =>
 simp only[cond_false]at hne|-;refine⟨w.heap.size+1,[{ target:=.collected w.heap.size,args:=#[] }],w1,{ target:=.fn (.func q) C,args:=F++#[Value.func (.yield (w.heap.size+1)) #[] #[]] },w1,q,(F++#[Value.func (.yield (w.heap.size+1)) #[] #[]])++C,w1,?_,?_,λ_ _=>trivial,?_,λhh=>by simp[Fw]at hh,?_⟩
 .exact run_enterLoop_outer fn A.tmps ps assign body
 .simp only[resolve,hX];simp[Deferred.ofValue,Act.eval]
 .simpa[invoke]using hrun
 .refine CallsIn.mono avT λe w3 he=>?_;cases e with
  |panicked ch=>exact he.elim
  |outgrown=>exact he.elim
  |returned x =>
  obtain⟨g3,hv3,hw3,hs3⟩:=he;obtain⟨b3,n3,L3,m1,m2,m3,m4,m5,m6,m7,m8,m9⟩:=hw3.NQ hgl;have hr3:=hs3.le.ρ σ.next _ (G.rV g σ.next (w.heap.size+1,0));obtain⟨rfl,rfl⟩:=Prod.mk.inj (gZ (m1.symm.trans hr3));have hnb:L3.state≠.busy:=by
   intro ayU;rw[ayU]at m3
   split at m3<;>first|(cases m3;done)|(rename_i hst;rw[hst]at hq1;cases hq1;done)
  refine⟨_,_,run_endLoop m2 hnb,?_⟩
  let w4:=w3.putObj (w.heap.size+1) (.loop { L3 with state:=.exhausted })
  have hoth:∀k,k≠w.heap.size+1->w4.heap[k]?=w3.heap[k]?:=λk hk=>World.putObj_heap_other hk;have hsome:(σ3.get σ.next).isSome=true:=by simp[oZ hgl]
  have hnd:=Dj hw3 hsome m1;have hw4:Rw P (aX P Hn) g3 (σ3.del σ.next) w4:=(hw3.del σ.next).other hnd m8 (by simp[w4]) hoth;have hlv:∀k,Live g3 (σ3.del σ.next) k->k<w.heap.size->Live g σ k:=λk hk hlt=>VQ k (hs3.live k hk.Dn (by omega)) (by omega);have hk3:∀k,k<w.heap.size->¬Live g σ k->((∀o,g.φ k o=none)\/g.pin k)->w4.heap[k]?=w.heap[k]?:=λk hk hl hp=>by
   rw[hoth k (by omega),hs3.qg.block k (by omega) (λhx=>hl (VQ k hx (by omega))) (by simp[GU]) hp,hold k hk]
  have VR:∀k,k<w.heap.size->(∀o,g.φ k o=none)->¬Live g σ k->∀o,g3.φ k o=none:=λk hk hp hl o =>
   hs3.phi k (by omega) (by simpa using hp) (λhx=>hl (VQ k hx (by omega))) o
  have hle3:=hle1.trans hs3.le;have hsize:w.heap.size<=w4.heap.size:=by have:=hs3.qg.size;simp[w4];omega
  have hstp:Stp g β σ w g3 β (σ3.del σ.next) w4 :=
   ⟨hle3,⟨hs3.qg.os,hs3.qg.tape,hs3.qg.output,hsize,λk hk hl _ hp=>hk3 k hk hl hp⟩,hlv,λt b hb _=>⟨t,hb⟩,VR⟩
  have hSt:St P (aX P Hn) g3 β (σ3.del σ.next) lo fr { A with defers:=[{ target:=.collected w.heap.size,args:=#[] }]++A.defers } w4:=by
   refine⟨h.s.f.mono hle3,h.s.b.same hle3 hlv VR (λt b hb=>?_),hw4⟩;obtain⟨cs,c,ty,_,h5,_⟩:=h.s.b.boxes t b hb;exact hk3 b (eY.1 h5).1 (h.s.b.apart t b hb).1 (.inl (h.s.b.apart t b hb).2)
  have hmark:w4.heap[w.heap.size]?=some (.deferred (some [])):=by
   rw[hoth _ (by omega),hs3.qg.block _ (by omega) (λhx=>?_) (by simp[GU]) (.inl λo=>by simpa using h.s.w.pW (aJ _) o),ayY];exact absurd ((VQ _ hx (by omega)).lt h.s.w) (by omega)
  have hDf:Df P B0 w4 ([{ target:=.collected w.heap.size,args:=#[] }]++A.defers):=by
   refine⟨.inl ⟨w.heap.size,h.le,rfl,hmark,λd' hd' ht=>?_⟩,h.step hstp rfl⟩;exact absurd (h.d.lt d' hd' ht) (by omega)
  have hSc:Sc P (aX P Hn) B0 g3 β (σ3.del σ.next) lo fr { A with defers:=[{ target:=.collected w.heap.size,args:=#[] }]++A.defers } w4:=⟨hSt,hDf,lM h.le hsize⟩;have hgoal:∀pj:Option Code,pj=lp3.pending.map I8->(match pj with
    |none=>kV P (aX P Hn) B0 g β σ w (match lp3.pending with|none=>.norm fr lo (σ3.del σ.next)|some j=>.jump j fr lo (σ3.del σ.next)) .normal { A with defers:=[{ target:=.collected w.heap.size,args:=#[] }]++A.defers } w4
    |some c=>c.wpIn (Fw none) 0 P (kV P (aX P Hn) B0 g β σ w (match lp3.pending with|none=>.norm fr lo (σ3.del σ.next)|some j=>.jump j fr lo (σ3.del σ.next))) { A with defers:=[{ target:=.collected w.heap.size,args:=#[] }]++A.defers } w4):=by
   intro pj hpj;clear m4;cases hpe:lp3.pending with
   |none =>
    rw[hpe]at hpj;subst hpj;exact(Gp hSc).after hstp
   |some j =>
    rw[hpe]at hpj;subst hpj;have hpost:=(Gn (P:=P) (comp:=aX P Hn) hSc j).after hstp;cases j with
    |ret=>exact wpIn_ret hpost
    |exit i=>exact wpIn_exit hpost
    |goto i=>exact wpIn_goto hpost
  exact hgoal L3.pending m4
end
section
variable {P:Program}{Hn:Hints}{comp:FuncId->Code->aN}{g g' g'':G}{σ σ' sJ:H}{w w' w'':World}{β β' β'':Nat->Option Nat}{lo lo':Lo}{fr fr':List V}{A A':Act}{B0:Nat}{ro:Option Nat}
def U1(P:Program)(Hn:Hints)(l:List Ins)(fr:List V)(lo:Lo)(σ:H)(out:Out):Prop :=
 ∀(f id:Nat) (ops:Array Oper) (ro:Option Nat) (B0:Nat) (g:G) (β:Nat->Option Nat) (A:Act) (w:World),aX P Hn f (.region id ops true)=.draw l->(ro.isSome=true->Di ops=true) ->
  Sc P (aX P Hn) B0 g β σ lo fr A w->out≠.fail->(Code.region id ops true).wpIn (Fw ro) 0 P (kV P (aX P Hn) B0 g β σ w out) A w
structure Rz (P:Program)(Hn:Hints)(ih:Ih):Prop where
 code:∀vc fr lo σ,Og P (aX P Hn) vc fr lo σ (ih (.code vc) fr lo σ)
 ops:∀l fr lo σ,ajt P Hn l fr lo σ (ih (.ops l) fr lo σ)
 draws:∀l fr lo σ,U1 P Hn l fr lo σ (ih (.draws l) fr lo σ)
 call:∀f args σ,qm P Hn f args σ (ih (.call f args) [] [] σ)
 app:∀fv args σ,SH P Hn fv args σ (ih (.app fv args) [] [] σ)
 scope:∀vc vr fr lo σ,aek P Hn vc vr fr lo σ (ih (.scope vc vr) fr lo σ)
 loc:∀t k args σ,ih (.app (.aY t k) args) [] [] σ=.fail
 bad:∀fr lo σ,ih (.ops [.op none .bad]) fr lo σ=.fail
def auu{out:Out}:∀(a:Act) (v:World),¬kV P comp B0 g β σ w out .outgrown a v:=by
 rintro a v ⟨fr',lo',σ',h,_⟩
 rcases h with⟨_,h⟩|⟨j,_,h⟩
 .cases h
 .cases j<;>cases h
def adK{ih:Ih}(h0:Rz P Hn ih)(vc vr:aN)(fr:List V)(lo:Lo)(σ:H):aek P Hn vc vr fr lo σ (uy ih vc (ih (.code vr) fr lo σ)):=by
 intro f c r ro B0 g β A w hc hr hfc hfr hsc hne;subst hc hr;have hne':ih (.code (aX P Hn f r)) fr lo σ≠.fail:=by intro e;rw[e]at hne;exact hne rfl
 refine XI (wpIn_mono (h0.code _ _ _ _ f r ro B0 g β A w rfl hfr hsc hne') λe a v hp=>?_);obtain⟨mP,lo1,σ1,h1,g1,β1,hs1,hst1⟩:=hp;rcases h1 with⟨ho,rfl⟩|⟨j,ho,rfl⟩
 .rw[ho]at hne|-;exact⟨mP,lo1,σ1,.inl ⟨rfl,rfl⟩,g1,β1,hs1,hst1⟩
 .rw[ho]at hne|-;cases j with
  |ret=>exact⟨mP,lo1,σ1,.inr ⟨.ret,rfl,rfl⟩,g1,β1,hs1,hst1⟩
  |exit i=>exact⟨mP,lo1,σ1,.inr ⟨.exit i,rfl,rfl⟩,g1,β1,hs1,hst1⟩
  |goto l =>
   simp only[uy,Pg]at hne|-;simp only[Jump.ex,V6];cases hl:Go.findLabel c l with
   |none =>
    rw[hl]at hne;simp only[dW];exact⟨mP,lo1,σ1,.inr ⟨.goto l,rfl,rfl⟩,g1,β1,hs1,hst1⟩
   |some r' =>
    rw[hl]at hne;simp only[bT]at hne|-;have:=h0.scope (aX P Hn f c) (aX P Hn f r') mP lo1 σ1 f c r' ro B0 g1 β1 a v rfl rfl hfc (λh=>ab4 (hfc h) hl) hs1 hne;intro b k cs h1 h2 h3;obtain⟨e,a',w',hq,harr⟩:=this b k cs h1 h2 h3;exact⟨e,a',w',hq.after hst1,harr⟩
def IL{a b:Code}{x:Bool}(h:x=(flat a&&flat b))(hx:x=true):flat a=true/\flat b=true:=by
 rw[h]at hx;simpa using hx
def agB{ih:Ih}(h0:Rz P Hn ih)(vc:aN)(fr:List V)(lo:Lo)(σ:H):Og P (aX P Hn) vc fr lo σ (aS ih vc fr lo σ):=by
 intro f c ro B0 g β A w hc hfl hsc hne;subst hc;cases c with
 |skip=>exact wpIn_skip (Gp hsc)
 |label l=>exact wpIn_label (Gp hsc)
 |exit i=>exact wpIn_exit (Gn hsc (.exit i))
 |goto l=>exact wpIn_goto (Gn hsc (.goto l))
 |ret=>exact wpIn_ret (Gn hsc .ret)
 |refuse r=>exact absurd (h0.bad fr lo σ) hne
 |region id ops d =>
  cases d with
  |true =>
   have:=h0.draws (Oz P Hn f ops) fr lo σ f id ops ro B0 g β A w (by simp[aX]) hfl hsc;simp only[aX]at hne|-;exact this hne
  |false =>
   have:=h0.ops (ops.toList.map (ig P Hn f ops)) fr lo σ f ops 0 ro B0 g β A w (by simp) hfl hsc;simp only[aX,aS]at hne|-;have h2:=this hne;refine wpIn_region ?_;rw[List.range_eq_range'];simpa using h2
 |seq x y =>
  simp only[aX,aS]at hne|-;have hx:ih (.code (aX P Hn f x)) fr lo σ≠.fail:=by intro e;rw[e]at hne;exact hne rfl
  refine seq_ok (h0.code _ fr lo σ f x ro B0 g β A w rfl (λh=>(IL rfl (hfl h)).1) hsc hx) (λmP lo1 σ1 g1 β1 A1 w1 ho hs1=>?_) (λj mP lo1 σ1 ho=>by rw[ho];rfl);rw[ho]at hne|-;exact h0.code _ mP lo1 σ1 f y ro B0 g1 β1 A1 w1 rfl (λh=>(IL rfl (hfl h)).2) hs1 hne
 |cond q x y =>
  simp only[aX,aS]at hne|-;cases hq:bQ q with
  |none=>rw[hq]at hne;exact absurd rfl hne
  |some q' =>
   rw[hq]at hne;simp only[rJ]at hne|-;generalize hv:q'.ev fr=v at hne|-;cases v<;>try (exact absurd rfl hne)
   rename_i t;refine Ve hsc.s hq hv ?_;cases t
   .exact h0.code _ fr lo σ f y ro B0 g β A w rfl (λh=>(IL rfl (hfl h)).2) hsc hne
   .exact h0.code _ fr lo σ f x ro B0 g β A w rfl (λh=>(IL rfl (hfl h)).1) hsc hne
 |block id x =>
  simp only[aX,aS]at hne|-;have hx:ih (.code (aX P Hn f x)) fr lo σ≠.fail:=by intro e;rw[e]at hne;exact hne rfl
  exact ajO (h0.code _ fr lo σ f x ro B0 g β A w rfl hfl hsc hx)
 |loop x =>
  simp only[aX,aS]at hne|-;have hx:ih (.code (aX P Hn f x)) fr lo σ≠.fail:=by intro e;rw[e]at hne;exact hne rfl
  refine xB auu (wpIn_mono (h0.code _ fr lo σ f x ro B0 g β A w rfl hfl hsc hx) λe a v hp=>?_);obtain⟨mP,lo1,σ1,h1,g1,β1,hs1,hst1⟩:=hp;rcases h1 with⟨ho,rfl⟩|⟨j,ho,rfl⟩
  .rw[ho]at hne|-;have:=h0.code (.loop (aX P Hn f x)) mP lo1 σ1 f (.loop x) ro B0 g1 β1 a v rfl hfl hs1 hne;exact wpIn_mono this λe a' v' hq=>hq.after hst1
  .rw[ho];have:kV P (aX P Hn) B0 g β σ w (.jump j mP lo1 σ1) j.ex a v:=⟨mP,lo1,σ1,.inr ⟨j,rfl,rfl⟩,g1,β1,hs1,hst1⟩;cases j<;>exact this
 |scope x =>
  simp only[aX,aS]at hne|-;exact aef (h0.scope _ _ fr lo σ f x x ro B0 g β A w rfl rfl hfl hfl hsc hne)
 |rangeFunc q ps a b =>
  have hrn:ro=none:=by
   cases ro with
   |none=>rfl
   |some l=>have:=hfl rfl;simp[flat]at this
  subst hrn;simp only[aX]at hne|-
  split at hne
  .rename_i ay2;rw[if_pos ay2];simp only[aS]at hne|-;cases hq:bQ q with
   |none=>rw[hq]at hne;exact absurd rfl hne
   |some q' =>
    rw[hq]at hne;simp only[rJ]at hne|-;exact ang h0.call hq (by simpa using ay2) hsc hne
  .exact absurd (h0.bad fr lo σ) hne
def anW{ih:Ih}{fns:Nat->Option bF}(Y0:∀f vf,fns f=some vf->OA P Hn f=some vf)(hext:∀f vf,fns f=some vf->vf.ext≠0->Lr P Hn f vf)(hidle:∀q∈Hn.idle,A8 P q)
  (ay0:∀ih,Rz P Hn ih->∀l fr lo σ,U1 P Hn l fr lo σ (step fns ih (.draws l) fr lo σ)) (h0:Rz P Hn ih):Rz P Hn (step fns ih) where
 code:=agB h0
 ops:=amR h0.ops h0.call h0.app hidle h0.loc
 draws:=ay0 ih h0
 call:=apN Y0 hext h0.code
 app:=ajF h0.call h0.code
 scope:=adK h0
 loc _ _ _ _:=rfl
 bad _ _ _:=rfl
end
mutual
def J4:∀{a b:V},nT a b=true->a=b
 |.undef,b,h=>by cases b<;>simp[nT]at h<;>rfl
 |.bool x,b,h=>by cases b<;>simp[nT]at h;rename_i y;cases x<;>cases y<;>simp_all
 |.int k x,b,h=>by
  cases b<;>simp[nT]at h;rw[l7,uo]at h;simp at h;rw[h.1,h.2]
 |.str x,b,h=>by
  cases b<;>simp[nT]at h;rw[um]at h;rw[beq_iff_eq.1 h]
 |.nilPtr,b,h=>by cases b<;>simp[nT]at h<;>rfl
 |.aY x y,b,h=>by cases b<;>simp[nT]at h;rw[h.1,h.2]
 |.bg x y,b,h=>by cases b<;>simp[nT]at h;rw[h.1,h.2]
 |.iE x,b,h=>by cases b<;>simp[nT]at h;rw[Ac h]
 |.aj,b,h=>by cases b<;>simp[nT]at h<;>rfl
 |.list x e,b,h=>by
  cases b<;>simp[nT]at h;rename_i y e';rw[Ac h.2];have:e=e':=by cases e<;>cases e'<;>simp_all
  rw[this]
 |.hsl a1 a2 a3 a4 a5,b,h=>by
  cases b<;>simp[nT]at h;rename_i b1 b2 b3 b4 b5;have h4:a4=b4:=by cases a4<;>cases b4<;>simp_all [eqO]
  rw[h.1.1.1.1,h.1.1.1.2,h.1.1.2,h.1.2,h4]
 |.fA,b,h=>by cases b<;>simp[nT]at h<;>rfl
 |.map x,b,h=>by cases b<;>simp[nT]at h;rw[h]
 |.nilFunc,b,h=>by cases b<;>simp[nT]at h<;>rfl
 |.func f x y,b,h=>by
  cases f<;>cases b<;>try (simp[nT]at h;done)
  rename_i f' x' y';cases f'<;>simp[nT]at h;rw[h.1.1,Ac h.1.2,Ac h.2]
 |.nilIface,b,h=>by cases b<;>simp[nT]at h<;>rfl
 |.iface t v,b,h=>by
  cases b<;>simp[nT]at h;rw[h.1,J4 h.2]
 |.agg x,b,h=>by cases b<;>simp[nT]at h;rw[Ac h]
 |.tuple x,b,h=>by cases b<;>simp[nT]at h;rw[Ac h]
def Ac:∀{a b:List V},Au a b=true->a=b
 |[],b,h=>by cases b<;>simp[Au]at h<;>rfl
 |x::xs,b,h=>by
  cases b<;>simp[Au]at h;rw[J4 h.1,Ac h.2]
end
def Same(l:List Nat)(F G:List V):Prop:=∀t∈l,aA F t=aA G t
def Same.symm{l:List Nat}{F G:List V}(h:Same l F G):Same l G F:=λt ht=>(h t ht).symm
def Same.sub{l m:List Nat}{F G:List V}(h:Same l F G)(hs:∀t∈m,t∈l):Same m F G:=λt ht=>h t (hs t ht)
def Same.left{l m:List Nat}{F G:List V}(h:Same (l++m) F G):Same l F G:=h.sub λ_ ht=>rM _ ht
def Same.right{l m:List Nat}{F G:List V}(h:Same (l++m) F G):Same m F G:=h.sub λ_ ht=>List.mem_append_right _ ht
def aC.same{x:aC}{F G:List V}(h:Same x.slots F G):x.ev F=x.ev G:=by
 cases x with
 |tmp t=>exact h t (by simp[aC.slots])
 |const v=>rfl
def Ep:∀{l:List aC} {F G:List V},Same (uI l) F G->aC.evs l F=aC.evs l G
 |[],_,_,_=>rfl
 |x::xs,F,G,h=>by simp only[aC.evs];rw[aC.same h.left,Ep h.right]
def J7:∀{ps:List (Nat×Nat×aC)} {F G cs:List V},Same (QU ps) F G->fill cs ps F=fill cs ps G
 |[],_,_,_,_=>rfl
 |(off,sz,x)::ps,F,G,cs,h=>by
  have ih:∀cs,fill cs ps F=fill cs ps G:=λcs=>J7 h.right;simp only[fill,ih];rw[aC.same h.left]
def O5{x:Option aC}{F G:List V}(h:Same (EZ x) F G):D7 x F=D7 x G:=by
 cases x with
 |none=>rfl
 |some x=>simp only[D7];rw[aC.same h]
def FP{o:oM}{d:Nat}{F G:List V}{lo:Lo}{h:H}(hs:Same o.slots F G):aK d o F lo h=aK d o G lo h:=by
 cases o with
 |mv x=>have e:=aC.same (x:=x) hs;simp only[aK,Qu,e]
 |CJ x=>have e:=aC.same (x:=x) hs;simp only[aK,AP,e]
 |Gw x=>have e:=aC.same (x:=x) hs;simp only[aK,Dq,e]
 |qR x=>have e:=aC.same (x:=x) hs;simp only[aK,vO,e]
 |tK x=>have e:=aC.same (x:=x) hs;simp only[aK,ug,e]
 |not x=>have e:=aC.same (x:=x) hs;simp only[aK,GY,e]
 |neg x=>have e:=aC.same (x:=x) hs;simp only[aK,BQ,e]
 |zN x=>have e:=aC.same (x:=x) hs;simp only[aK,sF,e]
 |Ic x=>have e:=aC.same (x:=x) hs;simp only[aK,xk,e]
 |nG x=>have e:=aC.same (x:=x) hs;simp only[aK,jE,e]
 |toStr x=>have e:=aC.same (x:=x) hs;simp only[aK,uj,e]
 |cap x=>have e:=aC.same (x:=x) hs;simp only[aK,BP,e]
 |qI n x=>have e:=aC.same (x:=x) hs;simp only[aK,vP,e]
 |mM k x=>have e:=aC.same (x:=x) hs;simp only[aK,lg,e]
 |pF t x=>have e:=aC.same (x:=x) hs;simp only[aK,lU,e]
 |fieldAddr n x=>have e:=aC.same (x:=x) hs;simp only[aK,jD,e]
 |field a b c x=>have e:=aC.same (x:=x) hs;simp only[aK,qL,e]
 |extract i x=>have e:=aC.same (x:=x) hs;simp only[aK,qj,e]
 |len c x=>have e:=aC.same (x:=x) hs;simp only[aK,vN,e]
 |clear z x=>have e:=aC.same (x:=x) hs;simp only[aK,vM,e]
 |qJ x y=>have e:=aC.same (x:=x) hs.left;have e2:=aC.same (x:=y) hs.right;simp only[aK,uf,e,e2]
 |store n x y=>have e:=aC.same (x:=x) hs.left;have e2:=aC.same (x:=y) hs.right;simp only[aK,lq,e,e2]
 |eq a b x y=>have e:=aC.same (x:=x) hs.left;have e2:=aC.same (x:=y) hs.right;simp only[aK,zY,e,e2]
 |bin b x y=>have e:=aC.same (x:=x) hs.left;have e2:=aC.same (x:=y) hs.right;simp only[aK,xR,e,e2]
 |ji n x y=>have e:=aC.same (x:=x) hs.left;have e2:=aC.same (x:=y) hs.right;simp only[aK,iG,e,e2]
 |wS a b x y=>have e:=aC.same (x:=x) hs.left;have e2:=aC.same (x:=y) hs.right;simp only[aK,xU,e,e2]
 |index x y=>have e:=aC.same (x:=x) hs.left;have e2:=aC.same (x:=y) hs.right;simp only[aK,pI,e,e2]
 |uw a b c x y=>have e:=aC.same (x:=x) hs.left;have e2:=aC.same (x:=y) hs.right;simp only[aK,mg,e,e2]
 |lookup a b c x y=>have e:=aC.same (x:=x) hs.left;have e2:=aC.same (x:=y) hs.right;simp only[aK,mD,e,e2]
 |wY kc z x y=>have e:=aC.same (x:=x) hs.left;have e2:=aC.same (x:=y) hs.right;simp only[aK,zI,e,e2]
 |max x y=>have e:=aC.same (x:=x) hs.left;have e2:=aC.same (x:=y) hs.right;simp only[aK,zJ,e,e2]
 |min x y=>have e:=aC.same (x:=x) hs.left;have e2:=aC.same (x:=y) hs.right;simp only[aK,zK,e,e2]
 |append n x y=>have e:=aC.same (x:=x) hs.left;have e2:=aC.same (x:=y) hs.right;simp only[aK,dN,e,e2]
 |qE z x y=>have e:=aC.same (x:=x) hs.left;have e2:=aC.same (x:=y) hs.right;simp only[aK,lT,e,e2]
 |copy n x y=>have e:=aC.same (x:=x) hs.left;have e2:=aC.same (x:=y) hs.right;simp only[aK,uF,e,e2]
 |rU n x y=>have e:=aC.same (x:=x) hs.left;have e2:=aC.same (x:=y) hs.right;simp only[aK,lS,dN,e,e2]
 |ni z x y=>have e:=aC.same (x:=x) hs.left;have e2:=aC.same (x:=y) hs.right;simp only[aK,kJ,iC,e,e2]
 |mkSlice z x y=>have e:=aC.same (x:=x) hs.left;have e2:=aC.same (x:=y) hs.right;simp only[aK,iC,e,e2]
 |pick x y z=>have e:=aC.same (x:=x) hs.left;have e2:=aC.same (x:=y) hs.right.left;have e3:=aC.same (x:=z) hs.right.right;simp only[aK,vS,e,e2,e3]
 |vI k x y z=>have e:=aC.same (x:=x) hs.left;have e2:=aC.same (x:=y) hs.right.left;have e3:=aC.same (x:=z) hs.right.right;simp only[aK,oH,e,e2,e3]
 |oz x y z=>have e:=aC.same (x:=x) hs.left;have e2:=aC.same (x:=y) hs.right.left;have e3:=aC.same (x:=z) hs.right.right;simp only[aK,uG,e,e2,e3]
 |alloc z=>rfl
 |jy z=>rfl
 |mkMap=>rfl
 |recover=>rfl
 |bad=>rfl
 |build z ps=>simp only[aK,xE,J7 (ps:=ps) hs]
 |lit z a b ps=>simp only[aK,GX,J7 (ps:=ps) hs]
 |l9 fn a b=>simp only[aK,tN,Ep (l:=a) hs.left,Ep (l:=b) hs.right]
 |slice st sz x a b c=>simp only[aK,uh,aC.same (x:=x) hs.left,O5 (x:=a) hs.right.left,O5 (x:=b) hs.right.right.left,O5 (x:=c) hs.right.right.right]
def WH{o:Option V}{lo lo':Lo}{h h':H}{v:V}(e:OR.eU o lo h=.ok v lo' h'):lo'=lo/\h'=h:=by
 cases o<;>simp[OR.eU]at e;exact⟨e.2.1.symm,e.2.2.symm⟩
def abS{o:oM}{d:Nat}{F:List V}{lo lo':Lo}{h h':H}{v:V}(hc:o.cls<2)(e:aK d o F lo h=.ok v lo' h'):lo'=lo/\h'=h:=by
 cases o<;>try (simp[oM.cls]at hc;done)
 all_goals simp only[aK,Qu,vS,xE,GX,vO,vP,ug,zY,xR,GY,BQ,lg,sF,xk,jE,uj,lU,tN,uh,jD,qL,iG,xU,pI,mg,mD,qj,vN,BP,zJ,zK]at e
 all_goals try (exact WH e)
 all_goals repeat' split at e
 all_goals first
  |(cases e;done)
  |exact WH e
  |(simp only[OR.ok.injEq]at e;exact⟨e.2.1.symm,e.2.2.symm⟩)
  |(simp only[cond_eq_ite]at e;split at e<;>first|(cases e;done)|exact WH e|(simp only[OR.ok.injEq]at e;exact⟨e.2.1.symm,e.2.2.symm⟩))
  |skip
def BM{o:Option V}{lo lo':Lo}{h h':H}{v:V}(lo2:Lo)(h2:H)(e:OR.eU o lo h=.ok v lo' h'):OR.eU o lo2 h2=.ok v lo2 h2:=by
 cases o<;>simp[OR.eU]at e|-;exact e.1
def agJ{o:oM}{d:Nat}{F:List V}{lo lo':Lo}{h h':H}{v:V}(hc:o.cls=0)(lo2:Lo)(h2:H)(e:aK d o F lo h=.ok v lo' h'):aK d o F lo2 h2=.ok v lo2 h2:=by
 have heq:∀c x y,oM.cls (.eq true c x y)=0->∀a b,nH h c a b=nH h2 c a b:=by
  intro c x y hcc a b
  match c,hcc with
  |0,_=>rfl
  |1,_=>rfl
  |3,_=>rfl
  |4,_=>rfl
  |5,_=>rfl
  |6,_=>rfl
  |n+7,_=>rfl
 cases o<;>try (simp[oM.cls]at hc;done)
 case eq n c x y =>
  simp only[aK,zY,heq c x y hc]at e|-;exact BM _ _ e
 case len c x =>
  have hl:∀a,lenOf h c a=lenOf h2 c a:=by
   intro a
   match c,hc with
   |0,_=>rfl
   |1,_=>rfl
   |n+3,_=>rfl
  simp only[aK,vN,hl]at e|-
  split at e
  .simp only[OR.ok.injEq]at e|-;exact⟨e.1,trivial,trivial⟩
  .cases e
 all_goals simp only[aK,Qu,vS,xE,GX,ug,xR,GY,BQ,lg,sF,xk,jE,lU,tN,uh,jD,qL,iG,xU,pI,mg,qj,BP,zJ,zK]at e|-
 all_goals try (exact BM _ _ e)
 all_goals repeat' split at e
 all_goals first
  |(cases e;done)
  |exact BM _ _ e
  |(simp_all;done)
  |(simp only[*];exact BM _ _ e)
  |(simp only[*,cond_eq_ite]at e|-;split at e
    .first|(cases e;done)|(rename_i hq;rw[if_pos hq];first|exact BM _ _ e|(simp only[OR.ok.injEq]at e|-;exact⟨e.1,trivial,trivial⟩))
    .first|(cases e;done)|(rename_i hq;rw[if_neg hq];first|exact BM _ _ e|(simp only[OR.ok.injEq]at e|-;exact⟨e.1,trivial,trivial⟩)))
  |skip
section
variable {P:Program}{Hn H2:Hints}{comp:FuncId->Code->aN}{g g' g'':G}{σ σ' sJ:H}{w w' w'':World}{β β' β'':Nat->Option Nat}{lo lo':Lo}{fr fr' F G F' G':List V}{A A':Act}{B0:Nat}{ro:Option Nat}
def xC(ih:Ih)(l:List Ins)(fr:List V)(lo:Lo)(σ:H):CW ih (.ops l) fr lo σ=.norm fr lo σ:=rfl
def nval(i:Ins)(F:List V)(lo:Lo)(σ:H):Option V:=match i with
 |.op (some d) o=>(match aK d o F lo σ with|.ok v _ _=>some v|.fail=>none)
 |.grd t b (some _) (.op (some d') o)=>(match aA F t with
  |.bool c=>bif (bif b then c else !c)then(match aK d' o F lo σ with|.ok v _ _=>some v|.fail=>none)else some (.tuple [])
  |.tuple vs=>(match vs with|[]=>some (.tuple [])|_::_=>none)
  |_=>none)
 |_=>none
def RU(d:Nat)(q:Nat):Ins->Prop
 |.op (some d1) o=>d1=d/\o.cls<=q/\q<2
 |.grd _ _ (some d1) (.op (some d2) o)=>d1=d/\d2=d/\o.cls<=q/\q<2
 |_=>False
def ZV{o:oM}(h:o.cls<2):bM o=false:=by cases o<;>first|rfl|(simp[oM.cls]at h)
def ZX{i:Ins}{d q:Nat}(h:RU d q i)(ih:Ih)(F:List V)(lo:Lo)(σ:H):kT (CW ih) [] i F lo σ=(match nval i F lo σ with|some v=>.norm (lC F d v) lo σ|none=>.fail):=by
 have base:∀(o:oM),o.cls<2->vV (CW ih) [] (.op (some d) o) F lo σ=(match(match aK d o F lo σ with|.ok v _ _=>some v|.fail=>none:Option V)with|some v=>.norm (lC F d v) lo σ|none=>.fail):=by
  intro o ho;simp only[vV,ZV ho,cond_false];cases he:aK d o F lo σ with
  |fail=>rfl
  |ok v lo' h' =>
   obtain⟨rfl,rfl⟩:=abS ho he;rfl
 cases i with
 |op d1 o =>
  cases d1 with
  |none=>exact h.elim
  |some d1 =>
   obtain⟨rfl,h1,h2⟩:=h;exact base o (by omega)
 |grd t b d1 j =>
  cases d1 with
  |none=>exact h.elim
  |some d1 =>
   cases j with
   |op d2 o =>
    cases d2 with
    |none=>exact h.elim
    |some d2 =>
     obtain⟨rfl,rfl,h1,h2⟩:=h;simp only[kT,wE,nval];cases hl:aA F t<;>try rfl
     .rename_i c;cases hcb:(bif b then c else !c)
      .simp only[hcb,cond_false];rfl
      .simp only[hcb,cond_true];exact base o (by omega)
     .rename_i vs;cases vs<;>rfl
   |_=>exact h.elim
 |_=>exact h.elim
def BK{i:Ins}(h:Same i.slots F G)(lo:Lo)(σ:H):nval i F lo σ=nval i G lo σ:=by
 cases i with
 |op d o =>
  cases d with
  |none=>rfl
  |some d=>simp only[nval,FP (o:=o) h]
 |grd t b d j =>
  have ht:aA F t=aA G t:=h t (by simp[Ins.slots]);have hj:Same j.slots F G:=h.sub λu hu=>by simp[Ins.slots,hu]
  cases d with
  |none=>rfl
  |some d =>
   cases j with
   |op d2 o =>
    cases d2 with
    |none=>rfl
    |some d2=>simp only[nval,ht,FP (o:=o) hj]
   |_=>rfl
 |_=>rfl
def Ue{i:Ins}{d:Nat}(h:RU d 0 i){v:V}(e:nval i F lo σ=some v)(lo2:Lo)(σ2:H):nval i F lo2 σ2=some v:=by
 have base:∀(o:oM) (d:Nat) (v:V),o.cls=0->(match aK d o F lo σ with|.ok v _ _=>some v|.fail=>none)=some v->(match aK d o F lo2 σ2 with|.ok v _ _=>some v|.fail=>none)=some v:=by
  intro o d v ho he;cases hq:aK d o F lo σ with
  |fail=>rw[hq]at he;cases he
  |ok v1 l1 h1 =>
   rw[hq]at he;rw[agJ ho lo2 σ2 hq];exact he
 cases i with
 |op d1 o =>
  cases d1 with
  |none=>exact h.elim
  |some d1=>exact base o d1 v (by have:=h.2.1;omega) e
 |grd t b d1 j =>
  cases d1 with
  |none=>exact h.elim
  |some d1 =>
   cases j with
   |op d2 o =>
    cases d2 with
    |none=>exact h.elim
    |some d2 =>
     simp only[nval]at e|-;cases hl:aA F t<;>rw[hl]at e<;>try (exact e)
     rename_i c;dsimp only at e|-;cases hcb:(bif b then c else !c)
     .simp only[hcb,cond_false]at e|-;exact e
     .simp only[hcb,cond_true]at e|-;exact base o d2 v (by have:=h.2.2.1;omega) e
   |_=>exact h.elim
 |_=>exact h.elim
def ajY{i:Ins}{d q:Nat}(h:RU d q i){gd:Option (Nat×Bool)}{t:Nat}{o:oM}(hc:GL i=some (.chk gd t o))(e:yg gd t o F lo σ=true):nval i F lo σ=some (aA F d):=by
 have base:∀(d:Nat) (o:oM),yx d o F lo σ=true->(match aK d o F lo σ with|.ok v _ _=>some v|.fail=>none)=some (aA F d):=by
  intro d o he;unfold yx at he;cases hq:aK d o F lo σ with
  |fail=>rw[hq]at he;cases he
  |ok v l1 h1=>rw[hq]at he;simp only;rw[J4 he]
 cases i with
 |op d1 o1 =>
  cases d1 with
  |none=>exact h.elim
  |some d1 =>
   simp only[GL,aG,Ins.chk.injEq]at hc;obtain⟨rfl,rfl,rfl⟩:=hc;obtain⟨rfl,_,_⟩:=h;exact base _ _ e
 |grd t1 b d1 j =>
  cases d1 with
  |none=>exact h.elim
  |some d1 =>
   cases j with
   |op d2 o1 =>
    cases d2 with
    |none=>exact h.elim
    |some d2 =>
     simp only[GL,aG,Ins.chk.injEq]at hc;obtain⟨rfl,rfl,rfl⟩:=hc;obtain⟨rfl,rfl,_,_⟩:=h;simp only[yg]at e;simp only[nval];cases hl:aA F t1<;>rw[hl]at e<;>try (cases e;done)
     .rename_i c;dsimp only at e|-;cases hcb:(bif b then c else !c)
      .simp only[hcb,cond_false]at e|-;rw[<- J4 e]
      .simp only[hcb,cond_true]at e|-;exact base _ _ e
     .rename_i vs;cases vs with
      |nil=>dsimp only at e|-;rw[<- J4 e]
      |cons _ _=>cases e
   |_=>exact h.elim
 |_=>exact h.elim
def Yo{i:Ins}{ih:Ih}{lo':Lo}{σ':H}(hl:Gh i=true)(hs:Same i.slots F G)(e:kT (CW ih) [] i G lo σ=.norm G' lo' σ') :
  ∃v,G'=bG G i.dst v/\kT (CW ih) [] i F lo σ=.norm (bG F i.dst v) lo' σ':=by
 have base:∀(j:Ins),(∀t b d k,j≠.grd t b d k)->(match j with|.op _ o=>bM o=false|_=>True)->Same j.slots F G->vV (CW ih) [] j G lo σ=.norm G' lo' σ'->∃v,G'=bG G j.dst v/\vV (CW ih) [] j F lo σ=.norm (bG F j.dst v) lo' σ':=by
  intro j hng hna hs e;cases j with
  |op d o =>
   have ha:bM o=false:=hna;cases d with
   |none =>
    simp only[vV,ha,cond_false]at e|-;rw[FP hs];cases he:aK 0 o G lo σ with
    |fail=>rw[he]at e;cases e
    |ok v l1 h1 =>
     rw[he]at e;simp only[KC,xC,Out.norm.injEq]at e|-;obtain⟨rfl,rfl,rfl⟩:=e;exact⟨v,rfl,rfl,rfl,rfl⟩
   |some d =>
    simp only[vV,ha,cond_false]at e|-;rw[FP hs];cases he:aK d o G lo σ with
    |fail=>rw[he]at e;cases e
    |ok v l1 h1 =>
     rw[he]at e;simp only[KC,xC,Out.norm.injEq]at e|-;obtain⟨rfl,rfl,rfl⟩:=e;exact⟨v,rfl,rfl,rfl,rfl⟩
  |call d f l =>
   simp only[vV]at e|-;rw[Ep (l:=l) hs];cases ha:iV (aC.evs l G)
   .rw[ha]at e;simp only[cond_false]at e|-;cases ho:CW ih (.call f (aC.evs l G)) [] [] σ with
    |val v h1 =>
     rw[ho]at e;simp only[RZ,xC,Out.norm.injEq]at e|-;obtain⟨rfl,rfl,rfl⟩:=e;exact⟨v,rfl,rfl,rfl,rfl⟩
    |_=>rw[ho]at e;cases e
   .rw[ha]at e;cases e
  |dyn d f l =>
   simp only[vV]at e|-;rw[Ep (l:=l) hs.right,aC.same hs.left];cases ha:iV (aC.evs l G)
   .rw[ha]at e;simp only[cond_false]at e|-;cases ho:CW ih (.app (f.ev G) (aC.evs l G)) [] [] σ with
    |val v h1 =>
     rw[ho]at e;simp only[RZ,xC,Out.norm.injEq]at e|-;obtain⟨rfl,rfl,rfl⟩:=e;exact⟨v,rfl,rfl,rfl,rfl⟩
    |_=>rw[ho]at e;cases e
   .rw[ha]at e;cases e
  |defer ids f l =>
   simp only[vV]at e|-;rw[aC.same hs.left];cases hq:IZ ids (f.ev G)
   .rw[hq]at e;cases e
   .rw[hq]at e;simp only[cond_true,xC,Out.norm.injEq]at e|-;obtain⟨rfl,rfl,rfl⟩:=e;exact⟨.undef,rfl,rfl,rfl,rfl⟩
  |grd t b d k=>exact absurd rfl (hng _ _ _ _)
  |chk _ _ _=>cases e
 cases i with
 |grd t b d j =>
  have ht:aA F t=aA G t:=hs t (by simp[Ins.slots]);have hj:Same j.slots F G:=hs.sub λu hu=>by simp[Ins.slots,hu]
  simp only[kT,wE]at e|-;rw[ht];simp only[Gh,ah]at hl;have hdj:d=j.dst:=by
   have:=hl.1;generalize j.dst=q at this|-;cases d<;>cases q<;>simp_all [eqO]
  have avW:∀q,vV (CW ih) [] j G lo σ=q->q=.norm G' lo' σ'->∃v,G'=bG G d v/\vV (CW ih) [] j F lo σ=.norm (bG F d v) lo' σ':=by
   intro q hq hqe;subst hqe;rw[hdj];refine base j (λt b d k=>?_) ?_ hj hq
   .intro hk;subst hk;have:=hl.2;simp at this
   .cases j<;>first|trivial|(have:=hl.2;simpa using this)
  cases hg:aA G t<;>rw[hg]at e<;>try (cases e;done)
  .rename_i c;dsimp only at e|-;cases hcb:(bif b then c else !c)
   .simp only[hcb,cond_false,xC,Out.norm.injEq]at e|-;obtain⟨rfl,rfl,rfl⟩:=e;exact⟨.tuple [],rfl,rfl,rfl,rfl⟩
   .simp only[hcb,cond_true]at e|-;exact avW _ rfl e
  .rename_i vs;cases vs with
   |nil =>
    simp only[xC,Out.norm.injEq]at e|-;obtain⟨rfl,rfl,rfl⟩:=e;exact⟨.tuple [],rfl,rfl,rfl,rfl⟩
   |cons _ _=>cases e
 |op d o=>exact base (.op d o) (by simp) (by simpa[Gh]using hl) hs e
 |call d f l=>exact base (.call d f l) (by simp) trivial hs e
 |dyn d f l=>exact base (.dyn d f l) (by simp) trivial hs e
 |defer ids f l=>exact base (.defer ids f l) (by simp) trivial hs e
 |chk a b c=>cases e
end
section
variable {P:Program}{Hn H2:Hints}{comp:FuncId->Code->aN}{g g' g'':G}{σ σ' sJ:H}{w w' w'':World}{β β' β'':Nat->Option Nat}{lo lo':Lo}{fr fr' F G F' G':List V}{A A':Act}{B0:Nat}{ro:Option Nat}
def pU{n:Nat}:∀{l:List Nat},uz n l=true<->n∈l
 |[]=>by simp[uz]
 |x::xs=>by
  simp only[uz,gQ,pU (l:=xs),bU];constructor
  .rintro (h|h)
   .exact .inl (aP h).symm
   .exact .inr h
  .rintro (h|h)
   .exact .inl (by rw[h];exact jP x)
   .exact .inr h
def Bh:∀{a b:List Nat},Ym a b=true<->∀x∈a,x∉b
 |[],b=>by simp[Ym]
 |x::xs,b=>by
  simp only[Ym,ah,Bh (a:=xs),fQ,bU,forall_eq_or_imp];refine and_congr ?_ Iff.rfl;rw[<- pU];simp
def jW{p:Nat->Bool}:∀{l:List Nat},Bf p l=true<->∀x∈l,p x=true
 |[]=>by simp[Bf]
 |x::xs=>by simp[Bf,jW (l:=xs)]
def H9{p:Nat->Bool}{o:Option Nat}:Qw p o=true<->∀x,o=some x->p x=true:=by
 cases o<;>simp[Qw]
def Ar:∀{l:List Nat},yS l=true<->l.Nodup
 |[]=>by simp[yS]
 |x::xs=>by
  simp only[yS,ah,Ar (l:=xs),fQ,List.nodup_cons];refine and_congr ?_ Iff.rfl;rw[<- pU];simp
def jM{ins:Nat->Ins}{t:Nat}:∀{l:List Nat},t∈rW ins l<->∃i∈l,(ins i).dst=some t
 |[]=>by simp[rW]
 |x::xs=>by
  cases hd:(ins x).dst with
  |none=>simp[rW,hd,jM (l:=xs)]
  |some d =>
   simp only[rW,hd,bU,jM (l:=xs)];constructor
   .rintro (h|⟨i,hi,h⟩)
    .exact⟨x,.inl rfl,by rw[hd,h]⟩
    .exact⟨i,.inr hi,h⟩
   .rintro ⟨i,hi|hi,h⟩
    .subst hi;rw[hd]at h;cases h;exact .inl rfl
    .exact .inr ⟨i,hi,h⟩
def IE{ins:Nat->Ins}{d:Nat}:∀{l:List Nat},(rW ins l).Nodup->∀i∈l,∀j∈l,(ins i).dst=some d->(ins j).dst=some d->l.Nodup->i=j
 |[],_,i,hi,_,_,_,_,_=>by cases hi
 |x::xs,hn,i,hi,j,hj,h1,h2,hl=>by
  have hl':=List.nodup_cons.1 hl;rcases bU.1 hi with rfl|hi<;>rcases bU.1 hj with rfl|hj
  .rfl
  .simp only[rW,h1,List.nodup_cons]at hn;exact absurd (jM.2 ⟨j,hj,h2⟩) hn.1
  .simp only[rW,h2,List.nodup_cons]at hn;exact absurd (jM.2 ⟨i,‹i∈xs›,h1⟩) hn.1
  .refine IE ?_ i hi j hj h1 h2 hl'.2;cases hd:(ins x).dst with
   |none=>simpa[rW,hd]using hn
   |some d'=>simp only[rW,hd,List.nodup_cons]at hn;exact hn.2
def dQ(F:List V)(t u:Nat)(v:V):aA (lC F t v) u=if t=u/\u<F.length then v else aA F u:=by
 rw[tY,Jd,tY]
 split<;>simp
def yh{d:Option Nat}{u:Nat}{v:V}(h:d≠some u):aA (bG F d v) u=aA F u:=by
 cases d with
 |none=>rfl
 |some t =>
  simp only[bG,dQ];have:¬t=u:=λe=>h (by rw[e]);simp[this]
def EK{d:Option Nat}{u:Nat}{v:V}(hl:F.length=G.length)(h:d=some u):aA (bG F d v) u=aA (bG G d v) u:=by
 subst h;simp only[bG,dQ,hl];by_cases hu:u<G.length
 .simp[hu]
 .have h1:F[u]?=none:=gU (by omega);have h2:G[u]?=none:=gU (by omega);simp[hu,tY,h1]
def EU(d:Option Nat)(v:V)(F:List V):(bG F d v).length=F.length:=by
 cases d<;>simp[bG,iP]
def OZ(hl:F.length=G.length)(h:∀t,aA F t=aA G t):F=G:=by
 apply List.ext_getElem?;intro i;have:=h i;rw[tY,tY]at this;by_cases hi:i<F.length
 .have hi':i<G.length:=by omega
  rw[bV hi,bV hi']at this|-;simpa using this
 .rw[gU (by omega),gU (by omega)]
def agS{es:List Edge}{acc:List Nat}{s0 i:Nat}:∀(_:(es.foldl (λs e=>if Region.binds .any e then s |||2 ^ e.on |||acc.getD e.on 0 else s) s0).testBit i=true),
  s0.testBit i=true\/∃e∈es,Region.binds .any e=true/\(e.on=i\/(acc.getD e.on 0).testBit i=true):=by
 induction es generalizing s0 with
 |nil=>intro h;exact .inl h
 |cons e es ih =>
  intro h;simp only[List.foldl_cons]at h;rcases ih h with h|⟨e',he',h1,h2⟩
  .split at h
   .rename_i hb;simp only[Nat.testBit_or,gQ]at h;rcases h with(h|h)|h
    .exact .inl h
    .refine .inr ⟨e,by simp,hb,.inl ?_⟩;rw[Nat.testBit_two_pow]at h;simpa using h
    .exact .inr ⟨e,by simp,hb,.inr h⟩
   .exact .inl h
  .exact .inr ⟨e',bW _ he',h1,h2⟩
def kR(acc:List Nat)(o:Oper):List Nat:=acc++[o.after.toList.foldl (λs e=>if Region.binds .any e then s |||2 ^ e.on |||acc.getD e.on 0 else s) 0]
def aml(ops:List Oper):masks ops=ops.foldl kR []:=rfl
def YP:∀(ops:List Oper) (acc:List Nat) (j:Nat),j<acc.length->(ops.foldl kR acc).getD j 0=acc.getD j 0
 |[],acc,j,_=>rfl
 |o::ops,acc,j,h=>by
  simp only[List.foldl_cons];rw[YP ops _ j (by simp[kR];omega)];simp only[kR];simp[List.getD,jf h]
def YQ:∀(ops:List Oper) (acc:List Nat),(ops.foldl kR acc).length=acc.length+ops.length
 |[],acc=>rfl
 |o::ops,acc=>by simp only[List.foldl_cons];rw[YQ];simp[kR];omega
def F9{ops:List Oper}{j i:Nat}{o:Oper}(ho:ops[j]?=some o)(h:((masks ops).getD j 0).testBit i=true) :
  ∃e∈o.after.toList,Region.binds .any e=true/\(e.on=i\/((masks ops).getD e.on 0).testBit i=true):=by
 have hj:j<ops.length:=(fB.1 ho).1;obtain⟨pre,post,rfl,hp⟩:∃pre post,ops=pre++o::post/\pre.length=j:=by
  refine⟨ops.take j,ops.drop (j+1),?_,by simp;omega⟩;have:ops.drop j=o::ops.drop (j+1):=by
   rw[uM hj];congr 1;rw[bV hj]at ho;exact gZ ho
  rw[<- this,List.take_append_drop]
 have hlen:(pre.foldl kR []).length=j:=by rw[YQ];simp[hp]
 have hm:∀k,k<=j->(masks (pre++o::post)).getD k 0=(kR (pre.foldl kR []) o).getD k 0:=by
  intro k hk;rw[aml,List.foldl_append,List.foldl_cons];exact YP post _ k (by simp[kR,hlen];omega)
 have hlow:∀k,k<j->(masks (pre++o::post)).getD k 0=(pre.foldl kR []).getD k 0:=by
  intro k hk;rw[hm k (by omega)];simp[kR,List.getD,jf (show k<(pre.foldl kR []).length by omega)]
 rw[hm j (aJ _)]at h;have hlast:(kR (pre.foldl kR []) o).getD j 0=o.after.toList.foldl (λs e=>if Region.binds .any e then s |||2 ^ e.on |||(pre.foldl kR []).getD e.on 0 else s) 0:=by
  simp[kR,List.getD,hlen]
 rw[hlast]at h;rcases agS h with h|⟨e,he,hb,h⟩
 .simp at h
 .refine⟨e,he,hb,?_⟩;rcases h with h|h
  .exact .inl h
  .refine .inr ?_;by_cases hlt:e.on<j
   .rw[hlow _ hlt];exact h
   .rw[List.getD,gU (by omega)]at h;simp at h
end
section
variable {P:Program}{Hn H2:Hints}{comp:FuncId->Code->aN}{g g' g'':G}{σ σ' sJ:H}{w w' w'':World}{β β' β'':Nat->Option Nat}{lo lo':Lo}{fr fr' F F':List V}{A A':Act}{B0:Nat}{ro:Option Nat}
def amQ{ih:Ih}(hcall:∀f args σ,qm P Hn f args σ (ih (.call f args) [] [] σ))(happ:∀fv args σ,SH P Hn fv args σ (ih (.app fv args) [] [] σ))(hidle:∀q∈H2.idle,A8 P q)(hloc:∀t k args σ,ih (.app (.aY t k) args) [] [] σ=.fail)
  {ops:Array Oper} {f i:Nat} {o:Oper} {Q:Exit->Act->World->Prop} {K:Act->World->Prop} (ho:ops[i]?=some o) (hdef:ro.isSome=true->∀c,o.op≠.defer c) (h:Sc P (aX P Hn) B0 g β σ lo F A w)
  (hne:kT ih [] (ig P H2 f ops o) F lo σ≠.fail)
  (hK:∀g' β' σ' lo' fr' A' w',Sc P (aX P Hn) B0 g' β' σ' lo' fr' A' w'->Stp g β σ w g' β' σ' w'->(∀t:Nat,o.dst≠some t->A'.tmps[t]?=A.tmps[t]?)->ih (.ops []) fr' lo' σ'=kT ih [] (ig P H2 f ops o) F lo σ->K A' w') :
  wpOpIn (Fw ro) 0 P ops Q i K A w:=by
 have hst:∀i:Ins,(∀t b d j,i≠.grd t b d j)->kT ih [] i=vV ih [] i:=by
  intro i hi;cases i<;>first|rfl|exact absurd rfl (hi _ _ _ _)
 have hng:∀t b d j,(yG P H2 f o).getD (.op none .bad)≠.grd t b d j:=by
  intro t b d j e;cases hc:yG P H2 f o with
  |none=>rw[hc]at e;cases e
  |some i0 =>
   rw[hc]at e;simp only[rJ]at e;subst e;unfold yG at hc
   split at hc<;>simp[au]at hc
 unfold wpOpIn;rw[ho];dsimp only;cases hg:o.guard with
 |none =>
  have hw:Region.wanted o (yielded ops A.tmps)=true:=by simp[Region.wanted,hg]
  rw[if_pos hw];have hi:ig P H2 f ops o=(yG P H2 f o).getD (.op none .bad):=by simp[ig,hg]
  rw[hi]at hne hK;rw[hst _ hng]at hne hK;exact Iw hcall happ hidle hloc hdef h hne hK
 |some q =>
  obtain⟨j,b⟩:=q;cases hd:(ops[j]?).bind (·.dst)with
  |none =>
   have hi:ig P H2 f ops o=.op none .bad:=by simp[ig,hg,hd]
   rw[hi]at hne;exact absurd rfl hne
  |some t =>
  have hi:ig P H2 f ops o=.grd t b o.dst ((yG P H2 f o).getD (.op none .bad)):=by simp[ig,hg,hd]
  rw[hi]at hne hK;simp only[kT,wE]at hne hK;generalize hv:aA F t=v at hne hK;cases v with
  |bool c =>
   have hy:=JL h.s.f hd hv;dsimp only at hne hK;by_cases hcb:c=b
   .subst hcb;have hw:Region.wanted o (yielded ops A.tmps)=true:=by simp[Region.wanted,hg,hy]
    have hcc:(bif c then c else !c)=true:=by cases c<;>rfl
    rw[hcc]at hne hK;simp only[cond_true]at hne hK;rw[if_pos hw];exact Iw hcall happ hidle hloc hdef h hne hK
   .have hw:Region.wanted o (yielded ops A.tmps)=false:=by simp[Region.wanted,hg,hy,hcb]
    have hcc:(bif b then c else !c)=false:=by
     cases c<;>cases b<;>first|rfl|exact absurd rfl hcb
    rw[hcc]at hne hK;simp only[cond_false]at hne hK;rw[if_neg (by rw[hw];simp)];exact⟨λ_ _=>trivial,hK g β σ lo _ _ w (h.put o.dst (.dK (.mkTuple (A:=#[]) (.nil g)))) .refl (sG _ _ _) rfl⟩
  |tuple vs =>
   cases vs with
   |cons a b=>exact absurd rfl hne
   |nil =>
    have hy:=JM h.s.f hd hv;dsimp only at hne hK;have hw:Region.wanted o (yielded ops A.tmps)=false:=by simp[Region.wanted,hg,hy]
    rw[if_neg (by rw[hw];simp)];exact⟨λ_ _=>trivial,hK g β σ lo _ _ w (h.put o.dst (.dK (.mkTuple (A:=#[]) (.nil g)))) .refl (sG _ _ _) rfl⟩
  |_=>exact absurd rfl hne
structure Oi (g:G)(σ:H)(β:Nat->Option Nat)(A:Act)(w:World)(d:Nat)(z:List V)(b:Nat):Prop where
 slot:∀x,A.tmps[d]?=some x->x=.pointer (some ⟨b,0,none⟩)
 cells:∃C ty,w.heap[b]?=some (.cells C ty (0,0))/\lW g z C.toList
 phi:∀o,g.φ b o=none
 live:¬Live g σ b
 box:¬GU β b
def Oi.lt{d:Nat}{z:List V}{b:Nat}(h:Oi g σ β A w d z b):b<w.heap.size:=let⟨_,_,h,_⟩:=h.cells;(eY.1 h).1
def Oi.step{d:Nat}{z:List V}{b:Nat}(h:Oi g σ β A w d z b)(hs:Stp g β σ w g' β' σ' w')(hA:A'.tmps[d]?=A.tmps[d]?):Oi g' σ' β' A' w' d z b where
 slot x hx:=h.slot x (by rw[<- hA];exact hx)
 cells:=by
  obtain⟨C,ty,h1,h2⟩:=h.cells;exact⟨C,ty,(hs.qg.block b h.lt h.live h.box (.inl h.phi)).trans h1,h2.mono hs.le⟩
 phi:=hs.phi b h.lt h.phi h.live
 live hl:=h.live (hs.live b hl h.lt)
 box:=by rintro ⟨t,ht⟩;exact h.box (hs.box t b ht h.lt)
def Oi.birth{d:Nat}{z:List V}{b:Nat}{g0:G}{β0:Nat->Option Nat}{σ0:H}{w0:World}(h:Oi g σ β A w d z b)(hb0:w0.heap.size<=b)(hsc:Sc P (aX P Hn) B0 g β σ lo F A w)(hs:Stp g0 β0 σ0 w0 g β σ w) :
  ∃g',Sc P (aX P Hn) B0 g' β (σ.new (.cells z)) lo (lC F d (.bg σ.next 0)) A w/\Stp g0 β0 σ0 w0 g' β (σ.new (.cells z)) w /\
   (∀d2 z2 b2,b2≠b->Oi g σ β A w d2 z2 b2->Oi g' (σ.new (.cells z)) β A w d2 z2 b2):=by
 obtain⟨C,ty,h1,h2⟩:=h.cells;have hle:=G.yJ (g:=g) (b,C.size) (hsc.s.w.fresh _ (aJ _)).1;have hro:Ro P (aX P Hn) (g.bind σ.next (b,C.size)) (.cells z) b C.size w:=⟨C,ty,h1,rfl,by have:=h2.1;simp at this;omega,λj x hx=>let⟨y,hy,hr⟩:=h2.get hx;⟨y,by simpa using hy,hr.mono hle⟩⟩;have hw':=hsc.s.w.add h.live h.phi hro;have hlv:∀k,Live (g.bind σ.next (b,C.size)) (σ.new (.cells z)) k->k=b\/Live g σ k:=by
  rintro k ⟨i,m,hi,hk⟩
  by_cases e:i=σ.next
  .subst e;simp at hk;exact .inl hk.1.symm
  .rw[G.lX _ e]at hk;rw[H.rY]at hi;simp[Ne.symm e]at hi;exact .inr ⟨i,m,hi,hk⟩
 refine⟨_,⟨⟨?_,⟨λt k e=>?_,λt k e=>?_,hsc.s.b.inj⟩,hw'⟩,hsc.d,hsc.le⟩,⟨hs.le.trans hle,hs.qg,λk hk hlt=>?_,hs.box,λk hk hp hl o=>hs.phi k hk hp hl o⟩,λd2 z2 b2 hne h3=>⟨h3.slot,?_,h3.phi,λhl=>?_,h3.box⟩⟩
 .have hf:=hsc.s.f.mono hle;refine⟨by rw[iP];exact hf.size,λt v x hv hx=>?_⟩;rw[Jd]at hv
  split at hv
  .rename_i hq;obtain⟨rfl,_⟩:=hq;cases hv;rw[h.slot x hx];exact .dK (.bg 0 (G.rV _ _ _))
  .exact hf.slots t v x hv hx
 .obtain⟨cs,c,ty',k1,k2,k3,k4⟩:=hsc.s.b.boxes t k e;exact⟨cs,c,ty',k1,k2,k3,λj x hx=>let⟨v,a,r⟩:=k4 j x hx;⟨v,a,r.mono hle⟩⟩
 .obtain⟨k1,k2⟩:=hsc.s.b.apart t k e;refine⟨λhl=>?_,k2⟩;rcases hlv k hl with rfl|hl
  .exact h.box ⟨t,e⟩
  .exact k1 hl
 .rcases hlv k hk with rfl|hl
  .omega
  .exact hs.live k hl hlt
 .obtain⟨C2,ty2,q1,q2⟩:=h3.cells;exact⟨C2,ty2,q1,q2.mono hle⟩
 .rcases hlv b2 hl with e|hl
  .exact hne e
  .exact h3.live hl
def abC{f:Nat}{o:Oper}{z:List V}(h:cOp P H2 f o=some (.jy z)):∃t zz,o.op=.alloc t/\nR P t=some zz/\zz.cells=z:=by
 obtain⟨dst,op,ty,pos,aft,gd⟩:=o;unfold cOp at h;simp only[jc,jR]at h;cases op with
 |alloc t =>
  simp only[au,aG]at h;obtain⟨zz,hz,h⟩:=h
  split at h
  .cases h;exact⟨t,zz,rfl,hz,rfl⟩
  .cases h
 |box t x =>
  simp only[au,aG]at h;obtain⟨y,hy,h⟩:=h
  split at h<;>cases h
 |build t ps =>
  simp only[au]at h;obtain⟨z',hz,ds,hds,h⟩:=h
  split at h<;>simp[au]at h
 |buildSlice t n ps =>
  simp only[au]at h;obtain⟨ds,hds,h⟩:=h
  split at h
  .simp only[au]at h;obtain⟨s,hs,z',hz,vps,hv,h⟩:=h
   split at h<;>cases h
  .cases h
 |load t a =>
  simp only[au]at h;obtain⟨y,hy,b,hb,h⟩:=h;cases b<;>simp[au]at h
 |binOp b t x y yt=>cases b<;>simp[au]at h
 |unOp u t x=>cases u<;>simp[au]at h
 |convert s t x =>
  simp only[au]at h;obtain⟨ds,hds,dt,hdt,h⟩:=h
  split at h
  .simp[au]at h
  .simp[au]at h
  .simp only[au]at h;obtain⟨de,hde,h⟩:=h
   split at h
   .split at h<;>simp[au]at h
   .cases h
  .simp only[au]at h;obtain⟨de,hde,h⟩:=h
   split at h<;>simp[au]at h
  .simp only[au]at h;obtain⟨de,hde,h⟩:=h
   split at h<;>simp[au]at h
  .cases h
 |makeInterface t x =>
  simp only[au]at h;obtain⟨ds,hds,h⟩:=h
  split at h<;>simp[au]at h
 |makeFunc fn a b=>cases fn<;>simp[au]at h
 |makeMap t r=>cases r<;>simp at h
 |makeSlice t l c =>
  simp only[au]at h;obtain⟨ds,hds,h⟩:=h
  split at h
  .simp only[au]at h;obtain⟨s,hs,h⟩:=h
   split at h<;>simp[au]at h
  .cases h
 |slice t x l hi m =>
  simp only[au]at h;obtain⟨ds,hds,h⟩:=h
  split at h<;>simp[au]at h
 |fieldAddr t x i =>
  simp only[au]at h;obtain⟨⟨off,ag,s⟩,hf,h⟩:=h;dsimp only at h
  split at h<;>simp[au]at h
 |field t x i =>
  simp only[au]at h;obtain⟨⟨off,ag,s⟩,hf,h⟩:=h;simp[]at h
 |indexAddr t x i =>
  simp only[au]at h;obtain⟨ds,hds,h⟩:=h
  split at h<;>simp[au]at h
 |index t x i =>
  simp only[au]at h;obtain⟨ds,hds,h⟩:=h
  split at h<;>simp[au]at h
 |lookup t x i ok =>
  simp only[au]at h;obtain⟨ds,hds,h⟩:=h
  split at h<;>simp[au]at h
 |mapUpdate t m k x =>
  simp only[au]at h;obtain⟨ds,hds,h⟩:=h
  split at h<;>simp[au]at h
 |insert t m k x =>
  simp only[au]at h;obtain⟨ds,hds,h⟩:=h
  split at h<;>simp[au]at h
 |mapEntry t m k =>
  simp only[au]at h;obtain⟨ds,hds,h⟩:=h
  split at h<;>simp[au]at h
 |call c =>
  obtain⟨callee,args,ats⟩:=c;cases callee with
  |builtin b =>
   dsimp only at h
   split at h
   .simp only[au]at h;obtain⟨t,ht,ds,hds,h⟩:=h
    split at h<;>simp[au]at h
   .simp only[au]at h;obtain⟨t,ht,ds,hds,h⟩:=h
    split at h<;>simp[au]at h
   .simp[au]at h
   .simp[au]at h
   .simp only[au]at h;obtain⟨t,ht,ds,hds,h⟩:=h
    split at h
    .simp only[au]at h;obtain⟨s,hs,u,hu,du,hdu,h⟩:=h
     split at h<;>first|(simp[au]at h;done)|(split at h<;>simp[au]at h)
    .cases h
   .simp only[au]at h;obtain⟨t,ht,ds,hds,h⟩:=h
    split at h<;>simp[au]at h
   .simp only[au]at h;obtain⟨t,ht,ds,hds,h⟩:=h
    split at h<;>simp[au]at h
   .cases h
  |_=>simp at h
 |_=>simp[au]at h
def ajA{ops:Array Oper}{f i d:Nat}{o:Oper}{z:List V}{Q:Exit->Act->World->Prop}{K:Act->World->Prop}(ho:ops[i]?=some o)(hi:ig P H2 f ops o=.op (some d) (.jy z))(h:Sc P (aX P Hn) B0 g β σ lo F A w)
  (hK:∀A' w',Sc P (aX P Hn) B0 g β σ lo (lC F d .undef) A' w'->Stp g β σ w g β σ w'->(∀t:Nat,o.dst≠some t->A'.tmps[t]?=A.tmps[t]?)->Oi g σ β A' w' d z w.heap.size->o.dst=some d->K A' w'):wpOpIn (Fw ro) 0 P ops Q i K A w:=by
 have hgd:o.guard=none:=by
  cases hg:o.guard with
  |none=>rfl
  |some q =>
   obtain⟨j,b⟩:=q;simp only[ig,hg]at hi
   split at hi<;>cases hi
 have hc:yG P H2 f o=some (.op (some d) (.jy z)):=by
  simp only[ig,hgd]at hi;cases hc:yG P H2 f o with
  |none=>rw[hc]at hi;cases hi
  |some i0=>rw[hc]at hi;simpa using hi
 have hop:o.dst=some d/\cOp P H2 f o=some (.jy z):=by
  unfold yG at hc
  split at hc
  .simp[au]at hc
  .simp[au]at hc
  .split at hc
   .cases hc
   .simp[au]at hc
  .simp only[jc,jR,au,aG]at hc;obtain⟨GK,hv,he⟩:=hc;simp only[Ins.op.injEq]at he;exact⟨he.1,by rw[<- he.2];exact hv⟩
 obtain⟨hd,hv⟩:=hop;obtain⟨t,zz,hop,hz,rfl⟩:=abC hv;obtain⟨it,Z,hit,hZ,hzc⟩:=mX (g:=g) hz;have hzero:(zeroValue t).run P w=.ok Z w:=by simp[zeroValue,typeInfo,program,Sem.run,hit,hZ,Result.andThen]
 have hex:(execOp A.eval o).run P w=.ok (.value (.pointer (some ⟨w.heap.size,0,none⟩))) (w.alloc (.cells Z.cells t (0,0))):=by
  simp only[execOp,hop,Instr.alloc,aH,hzero,Result.andThen,newVar,newRow,run_newObj_alloc,Sem.run_pure]
 have hw:Region.wanted o (yielded ops A.tmps)=true:=by simp[Region.wanted,hgd]
 unfold wpOpIn;rw[ho];dsimp only;rw[if_pos hw];refine⟨λ_ _=>trivial,?_⟩;have hse:(o.semAt (Fw ro).round A.eval)=execOp A.eval o:=Oper.semAt_eq _ _ _ (λc hc=>by rw[hop]at hc;cases hc);rw[hse,hex];have hbl:∀k,k<w.heap.size->(w.alloc (.cells Z.cells t (0,0))).heap[k]?=w.heap[k]?:=λk hk=>Below.heap_alloc w _ k hk;have hst:Stp g β σ w g β σ (w.alloc (.cells Z.cells t (0,0))):=⟨.refl g,Frm.alloc _ _,λ_ h _=>h,λt b h _=>⟨t,h⟩,λ_ _ h _=>h⟩;have hput:(bG F (some d) .undef)=lC F d .undef:=rfl;refine hK _ _ ⟨⟨?_,?_,h.s.w.alloc _⟩,?_,?_⟩ hst (sG _ _ _) ⟨λx hx=>?_,⟨Z.cells,t,Go.World.alloc_heap_new w _,hzc⟩,λo=>h.s.w.pW (aJ _) o,yM h.s.w,?_⟩ hd
 .rw[hd,<- hput];exact h.s.f.bG (.dK (.undef _))
 .refine h.s.b.same (.refl g) (λ_ hl _=>hl) (λ_ _ hp _ o=>hp o) (λt' b e=>?_);obtain⟨cs,c,ty',_,h5,_⟩:=h.s.b.boxes t' b e;exact hbl b (eY.1 h5).1
 .rw[put_defers];exact h.step hst rfl
 .exact lM h.le hst.qg.size
 .rw[hd]at hx;simp only[Act.put,rD]at hx
  split at hx
  .split at hx
   .cases hx;rfl
   .cases hx
  .rename_i hq;exact absurd trivial hq
 .rintro ⟨t',ht'⟩
  obtain⟨cs,c,ty',_,h5,_⟩:=h.s.b.boxes t' _ ht';have:=(eY.1 h5).1;omega
end
section
variable {P:Program}{Hn H2:Hints}{comp:FuncId->Code->aN}{g g' g'':G}{σ σ' sJ:H}{w w' w'':World}{β β' β'':Nat->Option Nat}{lo lo':Lo}{fr fr' F F':List V}{A A':Act}{B0:Nat}{ro:Option Nat}
structure Stat (P:Program)(H2:Hints)(f:Nat)(ops:Array Oper)(ins:Nat->Ins)(cls ms:Nat->Nat)(sw:Nat->Prop):Prop where
 TB:∀i o,¬sw i->ops[i]?=some o->ins i=ig P H2 f ops o
 low:∀i,i<ops.size->cls i<2->∃d,(ins i).dst=some d/\RU d (cls i) (ins i)
 alc:∀i,i<ops.size->cls i=3->∃d z,ins i=.op (some d) (.jy z)
 cl3:∀i,cls i<2\/cls i=2\/cls i=3
 mask:∀i o j,¬sw i->ops[i]?=some o->(ms i).testBit j=true->∃e∈o.after,Region.binds .any e=true/\(e.on=j\/(ms e.on).testBit j=true)
 uniq:∀i j d,i<ops.size->j<ops.size->cls i≠2->cls j≠2->(ins i).dst=some d->(ins j).dst=some d->i=j
 avt:∀e i d,e<ops.size->i<ops.size->cls e=2->cls i≠2->(ins e).dst=some d->(ins i).dst≠some d
 reads:∀i j t,i<ops.size->j<ops.size->cls i≠3->cls j≠2->(ins j).dst=some t->t∈(ins i).slots->(ms i).testBit j=true/\(cls i=2\/cls j≠3)
 loc:∀i,i<ops.size->Gh (ins i)=true
 OO:∀i,cls i≠2->i<ops.size
 awu:∀i o,ops[i]?=some o->∀e∈o.after,Region.binds .any e=true->e.on<i
def done(listed:Array Bool)(i:Nat):Prop:=listed.getD i true=true
instance (listed:Array Bool)(i:Nat):Decidable (done listed i):=inferInstanceAs (Decidable (_=_))
def Closed(ops:Array Oper)(ms:Nat->Nat)(listed:Array Bool):Prop:=∀j,j<ops.size->done listed j->∀i,(ms j).testBit i=true->i<ops.size/\done listed i
def dM{listed:Array Bool}{i j:Nat}:done (listed.setIfInBounds i true) j<->done listed j\/i=j:=by
 unfold done;by_cases h:i=j
 .subst h;by_cases hs:i<listed.size
  .simp[hs,Array.getD]
  .simp[Array.getD,hs]
 .have:(listed.setIfInBounds i true).getD j true=listed.getD j true:=getD_set_ne true h;rw[this];simp[h]
def kS{ops:Array Oper}{ins:Nat->Ins}{cls ms:Nat->Nat}{f:Nat}{listed:Array Bool}{j:Nat}{sw:Nat->Prop}(hs:Stat P H2 f ops ins cls ms sw)(hw:sw j->∀i,(ms j).testBit i=true->i<ops.size/\done listed i)(hl:listed.size=ops.size)(hc:Closed ops ms listed)(hr:j∈Region.ready .any ops listed) :
  j<ops.size/\¬done listed j/\∀i,(ms j).testBit i=true->i<ops.size/\done listed i:=by
 obtain⟨h0,o,ho,hall⟩:=mem_ready.1 hr;have hj:=(eY.1 ho).1;refine⟨hj,by unfold done;rw[h0];simp,λi hi=>?_⟩;by_cases hsj:sw j
 .exact hw hsj i hi
 obtain⟨e,he,hb,hcase⟩:=hs.mask j o i hsj ho hi;have hd:=hall e he hb;have hlt:e.on<listed.size:=by
  by_cases hq:e.on<listed.size
  .exact hq
  .simp[Array.getD,hq]at hd
 have hdone:done listed e.on:=by
  unfold done;simp only[Array.getD,hlt,dif_pos]at hd|-;exact hd
 rcases hcase with rfl|h
 .exact⟨by omega,hdone⟩
 .exact hc e.on (by omega) hdone i h
def OM{ops:Array Oper}{ins:Nat->Ins}{cls ms:Nat->Nat}{f:Nat}{listed:Array Bool}{j:Nat}{sw:Nat->Prop}(hs:Stat P H2 f ops ins cls ms sw)(hw:sw j->∀i,(ms j).testBit i=true->i<ops.size/\done listed i)(hl:listed.size=ops.size)(hc:Closed ops ms listed)(hr:j∈Region.ready .any ops listed):Closed ops ms (listed.setIfInBounds j true):=by
 intro k hk hd i hi;rcases dM.1 hd with hd|rfl
 .exact⟨(hc k hk hd i hi).1,dM.2 (.inl (hc k hk hd i hi).2)⟩
 .obtain⟨_,_,h3⟩:=kS hs hw hl hc hr;exact⟨(h3 i hi).1,dM.2 (.inl (h3 i hi).2)⟩
structure Core (P:Program)(Hn:Hints)(ops:Array Oper)(ins:Nat->Ins)(cls ms:Nat->Nat)(B0:Nat)(g0:G)(β0:Nat->Option Nat)(σ0:H)(w0:World)(born:List Nat)(lo:Lo)(σ:H)(Gr:List V)
  (listed:Array Bool) (A:Act) (w:World) (g:G) (β:Nat->Option Nat) (F:List V) (pb:Nat->Nat):Prop where
 size:listed.size=ops.size
 closed:Closed ops ms listed
 sc:Sc P (aX P Hn) B0 g β σ lo F A w
 stp:Stp g0 β0 σ0 w0 g β σ w
 len:F.length=Gr.length
 agr:∀t,aA F t=aA Gr t\/(∃j,j<ops.size/\cls j<2/\¬done listed j/\(ins j).dst=some t)\/(∃a,a<ops.size/\cls a=3/\a∉born/\(ins a).dst=some t)
 Ou:∀a∈born,a<ops.size/\cls a=3/\done listed a
 pend:∀a d z,a<ops.size->cls a=3->done listed a->a∉born->ins a=.op (some d) (.jy z)->w0.heap.size<=pb a/\Oi g σ β A w d z (pb a)
 aaf:∀a a',a<ops.size->a'<ops.size->cls a=3->cls a'=3->done listed a->done listed a'->a∉born->a'∉born->pb a=pb a'->a=a'
structure Inv (P:Program)(Hn:Hints)(ops:Array Oper)(ins:Nat->Ins)(cls ms:Nat->Nat)(B0:Nat)(g0:G)(β0:Nat->Option Nat)(σ0:H)(w0:World)(win born todo:List Nat)(lo:Lo)(σ:H)(Gr:List V)
  (listed:Array Bool) (A:Act) (w:World) (g:G) (β:Nat->Option Nat) (F:List V) (pb:Nat->Nat):Prop where
 core:Core P Hn ops ins cls ms B0 g0 β0 σ0 w0 born lo σ Gr listed A w g β F pb
 idem:∀i∈win,¬done listed i->∀d,(ins i).dst=some d->∃v,nval (ins i) Gr lo σ=some v/\(d<Gr.length->aA Gr d=v)
 UU:∀i∈win,i<ops.size/\cls i<2
 axK:∀i,i<ops.size->cls i<2->¬done listed i->i∈win\/∃e∈todo,(ms i).testBit e=true
 Fg:∀e∈todo,e<ops.size/\cls e=2/\¬done listed e
 MQ:∀e,e<ops.size->cls e=2->¬done listed e->e∈todo
variable {ops:Array Oper}{ins:Nat->Ins}{cls ms:Nat->Nat}{f:Nat}{listed:Array Bool}{win born todo:List Nat}{Gr:List V}{pb:Nat->Nat}{g0:G}{β0:Nat->Option Nat}{σ0:H}{w0:World}
def Core.same(hi:Core P Hn ops ins cls ms B0 g0 β0 σ0 w0 born lo σ Gr listed A w g β F pb){sw:Nat->Prop}(hs:Stat P H2 f ops ins cls ms sw){i:Nat}(hlt:i<ops.size)(hm:∀j,(ms i).testBit j=true->j<ops.size/\done listed j)
  (hc:cls i<2\/(cls i=2/\∀a,a<ops.size->cls a=3->(ms i).testBit a=true->a∈born)):Same (ins i).slots F Gr:=by
 intro t ht;rcases hi.agr t with h|⟨j,hj,hcj,hnd,hd⟩|⟨a,ha,hca,hnb,hd⟩
 .exact h
 .have h3:cls i≠3:=by rcases hc with h|⟨h,_⟩<;>omega
  have:=(hs.reads i j t hlt hj h3 (by omega) hd ht).1;exact absurd (hm j this).2 hnd
 .have h3:cls i≠3:=by rcases hc with h|⟨h,_⟩<;>omega
  have:=hs.reads i a t hlt ha h3 (by omega) hd ht;rcases hc with h|⟨_,h⟩
  .rcases this.2 with h2|h2
   .omega
   .exact absurd hca h2
  .exact absurd (h a ha hca this.1) hnb
def ajR{o:Oper}{i:Ins}(h:yG P H2 f o=some i):i.dst=o.dst:=by
 unfold yG at h
 split at h
 .simp only[jc,jR,au,aG]at h;obtain⟨_,_,rfl⟩:=h;rfl
 .simp only[jc,jR,au,aG]at h;obtain⟨_,_,_,_,rfl⟩:=h;rfl
 .split at h
  .cases h
  .rename_i hd;simp only[jc,jR,au,aG]at h;obtain⟨_,_,_,_,rfl⟩:=h;cases hq:o.dst with
   |none=>rfl
   |some t=>rw[hq]at hd;simp at hd
 .simp only[jc,jR,au,aG]at h;obtain⟨_,_,rfl⟩:=h;rfl
def JY{o:Oper}(h:ig P H2 f ops o≠.op none .bad):(ig P H2 f ops o).dst=o.dst:=by
 unfold ig at h|-;cases hg:o.guard with
 |none =>
  rw[hg]at h;dsimp only at h|-;cases hc:yG P H2 f o with
  |none=>rw[hc]at h;exact absurd rfl h
  |some i=>exact ajR hc
 |some q =>
  obtain⟨j,b⟩:=q;rw[hg]at h;dsimp only at h|-;cases hd:(ops[j]?).bind (·.dst)with
  |none=>rw[hd]at h;exact absurd rfl h
  |some t=>rfl
def Core.put{sw:Nat->Prop}(hi:Core P Hn ops ins cls ms B0 g0 β0 σ0 w0 born lo σ Gr listed A w g β F pb)(hs:Stat P H2 f ops ins cls ms sw){j:Nat}(hw:sw j->∀i,(ms j).testBit i=true->i<ops.size/\done listed i)(hr:j∈Region.ready .any ops listed){lo':Lo}{σ':H}{v:V}{DV:List V}{dj:Option Nat}
  (hdj:(ins j).dst=dj) (hcj:cls j≠3) (hGr:DV.length=Gr.length) (hG:∀t,(aA (bG F dj v) t=aA DV t)\/(dj≠some t/\aA DV t=aA Gr t))
  (hsc:Sc P (aX P Hn) B0 g' β' σ' lo' (bG F dj v) A' w') (hst:Stp g β σ w g' β' σ' w') (hA:∀t:Nat,dj≠some t->A'.tmps[t]?=A.tmps[t]?) :
  Core P Hn ops ins cls ms B0 g0 β0 σ0 w0 born lo' σ' DV (listed.setIfInBounds j true) A' w' g' β' (bG F dj v) pb:=by
 have hrm:=kS hs hw hi.size hi.closed hr;refine⟨by simp[hi.size],OM hs hw hi.size hi.closed hr,hsc,hi.stp.trans hst,by rw[EU,hGr];exact hi.len,λt=>?_,λa ha=>?_,λa d z ha hca hda hnb hz=>?_,λa a' ha ha' hca alk hda YZ hnb hnb' he=>?_⟩
 .rcases hG t with h|⟨h1,h2⟩
  .exact .inl h
  .rcases hi.agr t with h|⟨k,hk,hck,hnd,hd⟩|⟨a,ha,hca,hnb,hd⟩
   .exact .inl (by rw[yh h1,h2,h])
   .refine .inr (.inl ⟨k,hk,hck,λhdone=>?_,hd⟩);rcases dM.1 hdone with h|rfl
    .exact hnd h
    .exact h1 (by rw[<- hdj,hd])
   .exact .inr (.inr ⟨a,ha,hca,hnb,hd⟩)
 .obtain⟨h1,h2,h3⟩:=hi.Ou a ha;exact⟨h1,h2,dM.2 (.inl h3)⟩
 .have hne:j≠a:=by intro e;subst e;exact hcj hca
  have YZ:done listed a:=(dM.1 hda).resolve_right hne;obtain⟨h1,h2⟩:=hi.pend a d z ha hca YZ hnb hz;refine⟨h1,h2.step hst (hA d ?_)⟩;intro e;rw[<- hdj]at e;have aqE:(ins a).dst=some d:=by rw[hz];rfl
  rcases hs.cl3 j with hc|hc|hc
  .exact hne (hs.uniq j a d hrm.1 ha (by omega) (by omega) e aqE)
  .exact hs.avt j a d hrm.1 ha hc (by omega) e aqE
  .exact hcj hc
 .have hne:j≠a:=by intro e;subst e;exact hcj hca
  have hne':j≠a':=by intro e;subst e;exact hcj alk
  exact hi.aaf a a' ha ha' hca alk ((dM.1 hda).resolve_right hne) ((dM.1 YZ).resolve_right hne') hnb hnb' he
end
section
variable {P:Program}{Hn H2:Hints}{comp:FuncId->Code->aN}{g g' g'':G}{σ σ' sJ:H}{w w' w'':World}{β β' β'':Nat->Option Nat}{lo lo':Lo}{fr fr' F F':List V}{A A':Act}{B0:Nat}{ro:Option Nat}
variable {sw:Nat->Prop}{ops:Array Oper}{ins:Nat->Ins}{cls ms:Nat->Nat}{f:Nat}{listed:Array Bool}{win born todo:List Nat}{Gr:List V}{pb:Nat->Nat}{g0:G}{β0:Nat->Option Nat}{σ0:H}{w0:World}
structure LC (P:Program)(Hn H2:Hints)(ops:Array Oper)(ro:Option Nat)(ih:Ih):Prop where
 call:∀f args σ,qm P Hn f args σ (ih (.call f args) [] [] σ)
 app:∀fv args σ,SH P Hn fv args σ (ih (.app fv args) [] [] σ)
 idle:∀q∈H2.idle,A8 P q
 loc:∀t k args σ,ih (.app (.aY t k) args) [] [] σ=.fail
 defer:ro.isSome=true->Di ops=true
def LC.hdef{ih:Ih}(h:LC P Hn H2 ops ro ih){i:Nat}{o:Oper}(ho:ops[i]?=some o):ro.isSome=true->∀c,o.op≠.defer c:=by
 intro hr c hc;have hnd:=h.defer hr;simp only[Di,Array.all_eq_true]at hnd;have hlt:=(eY.1 ho).1;have:=hnd i hlt;have ho':ops[i]=o:=by rw[rH hlt]at ho;exact gZ ho
 rw[ho',hc]at this;cases this
def ad4{ih:Ih}(hm:LC P Hn H2 ops ro ih)(hs:Stat P H2 f ops ins cls ms sw)(hi:Inv P Hn ops ins cls ms B0 g0 β0 σ0 w0 win born todo lo σ Gr listed A w g β F pb){j:Nat}(hsw:¬sw j)(hr:j∈Region.ready .any ops listed)(hc:cls j<2)
  {Q:Exit->Act->World->Prop} {K:Act->World->Prop}
  (hK:∀A' w' g' β' F',Inv P Hn ops ins cls ms B0 g0 β0 σ0 w0 win born todo lo σ Gr (listed.setIfInBounds j true) A' w' g' β' F' pb->K A' w'):wpOpIn (Fw ro) 0 P ops Q j K A w:=by
 obtain⟨hlt,hnd,hms⟩:=kS hs (λh=>absurd h hsw) hi.core.size hi.core.closed hr;obtain⟨d,hd,hni⟩:=hs.low j hlt hc;have hwin:j∈win:=by
  rcases hi.axK j hlt hc hnd with h|⟨e,he,hb⟩
  .exact h
  .exact absurd (hms e hb).2 (hi.Fg e he).2.2
 obtain⟨vj,hval,hvj⟩:=hi.idem j hwin hnd d hd;have hsame:=hi.core.same hs hlt hms (.inl hc);rw[<- BK hsame]at hval;have hrun:=ZX hni ih F lo σ;rw[hval]at hrun;dsimp only at hrun;have ho:ops[j]?=some ops[j]:=rH hlt;have hins:=hs.TB j _ hsw ho;have hdst:ops[j].dst=some d:=by
  have:(ig P H2 f ops ops[j]).dst=ops[j].dst:=JY (by rw[<- hins];intro e;rw[e]at hd;cases hd);rw[<- this,<- hins];exact hd
 rw[hins]at hrun;refine amQ (ih:=CW ih) hm.call hm.app hm.idle hm.loc ho (hm.hdef ho) hi.core.sc (by rw[hrun];simp) λg' β' σ' lo' fr' A' w' hsc hst hA he=>?_;rw[hrun,xC]at he;simp only[Out.norm.injEq]at he;obtain⟨rfl,rfl,rfl⟩:=he;refine hK A' w' g' β' (bG F (some d) vj) ⟨?_,λi hw hn=>hi.idem i hw (λh=>hn (dM.2 (.inl h))),hi.UU,λi h1 h2 hn=>hi.axK i h1 h2 (λh=>hn (dM.2 (.inl h))),λe he=>?_,λe h1 h2 hn=>hi.MQ e h1 h2 (λh=>hn (dM.2 (.inl h)))⟩
 .refine hi.core.put (dj:=some d) (v:=vj) hs (λh=>absurd h hsw) hr hd (by omega) rfl (λt=>?_) hsc hst (by rw[hdst]at hA;exact hA);by_cases ht:d=t
  .subst ht;refine .inl ?_;simp only[bG,dQ]
   split
   .rename_i hq;exact(hvj (by rw[<- hi.core.len];exact hq.2)).symm
   .rename_i hq;have hn:¬d<F.length:=λh=>hq ⟨trivial,h⟩;have h1:F[d]?=none:=gU (by omega);have h2:Gr[d]?=none:=gU (by rw[<- hi.core.len];omega);rw[tY,tY,h1,h2]
  .exact .inr ⟨λe=>ht (gZ e),rfl⟩
 .obtain⟨h1,h2,h3⟩:=hi.Fg e he;refine⟨h1,h2,λh=>?_⟩;rcases dM.1 h with h|rfl
  .exact h3 h
  .omega
def an5(hs:Stat P H2 f ops ins cls ms sw)(hi:Inv P Hn ops ins cls ms B0 g0 β0 σ0 w0 win born todo lo σ Gr listed A w g β F pb){j:Nat}(hsw:¬sw j)(hr:j∈Region.ready .any ops listed)(hc:cls j=3)
  {Q:Exit->Act->World->Prop} {K:Act->World->Prop}
  (hK:∀A' w' g' β' F' pb',Inv P Hn ops ins cls ms B0 g0 β0 σ0 w0 win born todo lo σ Gr (listed.setIfInBounds j true) A' w' g' β' F' pb'->K A' w'):wpOpIn (Fw ro) 0 P ops Q j K A w:=by
 obtain⟨hlt,hnd,hms⟩:=kS hs (λh=>absurd h hsw) hi.core.size hi.core.closed hr;obtain⟨d,z,hiz⟩:=hs.alc j hlt hc;have ho:ops[j]?=some ops[j]:=rH hlt;have hins:=hs.TB j _ hsw ho;have hnb:j∉born:=λh=>hnd (hi.core.Ou j h).2.2;have hdj:(ins j).dst=some d:=by rw[hiz];rfl
 refine ajA ho (by rw[<- hins];exact hiz) hi.core.sc λA' w' hsc hst hA hp hod=>?_;rw[hod]at hA;refine hK A' w' g β _ (λk=>if k=j then w.heap.size else pb k) ⟨⟨by simp[hi.core.size],OM hs (λh=>absurd h hsw) hi.core.size hi.core.closed hr,hsc,hi.core.stp.trans hst,by rw[iP];exact hi.core.len,λt=>?_,λa ha=>?_,λa d' z' ha hca hda aqH hz=>?_,λa a' ha ha' hca alk hda YZ aqH auh he=>?_⟩,
  λi hw hn=>hi.idem i hw (λh=>hn (dM.2 (.inl h))),hi.UU,λi h1 h2 hn=>hi.axK i h1 h2 (λh=>hn (dM.2 (.inl h))),λe he=>?_,λe h1 h2 hn=>hi.MQ e h1 h2 (λh=>hn (dM.2 (.inl h)))⟩
 .by_cases ht:d=t
  .subst ht;exact .inr (.inr ⟨j,hlt,hc,hnb,hdj⟩)
  .have:aA (lC F d .undef) t=aA F t:=by rw[dQ];simp[ht]
   rcases hi.core.agr t with h|⟨k,hk,hck,hnd',hd⟩|h
   .exact .inl (by rw[this,h])
   .refine .inr (.inl ⟨k,hk,hck,λhdone=>?_,hd⟩);rcases dM.1 hdone with h|rfl
    .exact hnd' h
    .omega
   .exact .inr (.inr h)
 .obtain⟨h1,h2,h3⟩:=hi.core.Ou a ha;exact⟨h1,h2,dM.2 (.inl h3)⟩
 .by_cases haj:a=j
  .subst haj;rw[hiz]at hz;cases hz;simp only[if_true];exact⟨hi.core.stp.qg.size,hp⟩
  .rw[if_neg haj];have YZ:done listed a:=(dM.1 hda).resolve_right (Ne.symm haj);obtain⟨h1,h2⟩:=hi.core.pend a d' z' ha hca YZ aqH hz;refine⟨h1,h2.step hst (hA d' ?_)⟩;intro e;have aqE:(ins a).dst=some d':=by rw[hz];rfl
   exact haj (hs.uniq j a d' hlt ha (by omega) (by omega) (by rw[hdj,e]) aqE).symm
 .have key:∀k,k<ops.size->cls k=3->done (listed.setIfInBounds j true) k->k∉born->k≠j->pb k<w.heap.size:=by
   intro k hk hck hdk aCe hkj;obtain⟨d2,z2,hz2⟩:=hs.alc k hk hck;exact(hi.core.pend k d2 z2 hk hck ((dM.1 hdk).resolve_right (Ne.symm hkj)) aCe hz2).2.lt
  by_cases h1:a=j
  .by_cases h2:a'=j
   .rw[h1,h2]
   .exfalso;have:=key a' ha' alk YZ auh h2;rw[if_pos h1,if_neg h2]at he;omega
  .by_cases h2:a'=j
   .exfalso;have:=key a ha hca hda aqH h1;rw[if_neg h1,if_pos h2]at he;omega
   .rw[if_neg h1,if_neg h2]at he;exact hi.core.aaf a a' ha ha' hca alk ((dM.1 hda).resolve_right (Ne.symm h1)) ((dM.1 YZ).resolve_right (Ne.symm h2)) aqH auh he
 .obtain⟨h1,h2,h3⟩:=hi.Fg e he;refine⟨h1,h2,λh=>?_⟩;rcases dM.1 h with h|rfl
  .exact h3 h
  .omega
def ajN{ih:Ih}{tl:List Ins}{out:Out}(hs:Stat P H2 f ops ins cls ms sw):∀(nO:List Nat) {born:List Nat} {σ:H} {Gr F:List V} {g:G},(∀a∈nO,a<ops.size/\cls a=3/\done listed a/\a∉born)->nO.Nodup ->
  Core P Hn ops ins cls ms B0 g0 β0 σ0 w0 born lo σ Gr listed A w g β F pb->fG ih (nO.map ins++tl) Gr lo σ=out ->
  ∃σ' DV F' g',Core P Hn ops ins cls ms B0 g0 β0 σ0 w0 (born++nO) lo σ' DV listed A w g' β F' pb/\fG ih tl DV lo σ'=out/\(∀t,t∉rW ins nO->aA DV t=aA Gr t)/\DV.length=Gr.length:=by
 intro nO
 induction nO with
 |nil=>intro born σ Gr F g _ _ hc hr;exact⟨σ,Gr,F,g,by simpa using hc,by simpa using hr,λ_ _=>rfl,rfl⟩
 |cons a nO ihl =>
  intro born σ Gr F g hal hn hc hr;obtain⟨ha,hca,hda,hnb⟩:=hal a (by simp);obtain⟨d,z,hz⟩:=hs.alc a ha hca;obtain⟨hw0,hp⟩:=hc.pend a d z ha hca hda hnb hz;obtain⟨g1,hsc1,hst1,hoth⟩:=hp.birth hw0 hc.sc hc.stp;have hnd:=List.nodup_cons.1 hn;have hdst:(ins a).dst=some d:=by rw[hz];rfl
  have hstep:fG ih (nO.map ins++tl) (lC Gr d (.bg σ.next 0)) lo (σ.new (.cells z))=out:=by
   rw[<- hr];simp only[bD,dZ,fG,hz];rfl
  have hcore:Core P Hn ops ins cls ms B0 g0 β0 σ0 w0 (born++[a]) lo (σ.new (.cells z)) (lC Gr d (.bg σ.next 0)) listed A w g1 β (lC F d (.bg σ.next 0)) pb:=by
   refine⟨hc.size,hc.closed,hsc1,hst1,by rw[iP,iP];exact hc.len,λt=>?_,λb hb=>?_,λb d' z' hb hcb hdb ag3 hzb=>?_,λb b' hb hb' hcb hcb' hdb aB1 ag3 azf he=>?_⟩
   .by_cases ht:d=t
    .subst ht;exact .inl (EK (d:=some d) hc.len rfl)
    .have e1:∀X:List V,aA (lC X d (.bg σ.next 0)) t=aA X t:=λX=>by rw[dQ];simp[ht]
     rw[e1,e1];rcases hc.agr t with h|h|⟨b,hb,hcb,ag3,hdb⟩
     .exact .inl h
     .exact .inr (.inl h)
     .refine .inr (.inr ⟨b,hb,hcb,λhmem=>?_,hdb⟩);rcases dH.1 hmem with h|h
      .exact ag3 h
      .simp at h;subst h;rw[hdst]at hdb;exact ht (gZ hdb)
   .rcases dH.1 hb with h|h
    .exact hc.Ou b h
    .simp at h;subst h;exact⟨ha,hca,hda⟩
   .have h1:b∉born:=λh=>ag3 (rM _ h);have h2:b≠a:=λh=>ag3 (by simp[h]);obtain⟨q1,q2⟩:=hc.pend b d' z' hb hcb hdb h1 hzb;exact⟨q1,hoth d' z' (pb b) (λe=>h2 (hc.aaf b a hb ha hcb hca hdb hda h1 hnb e)) q2⟩
   .exact hc.aaf b b' hb hb' hcb hcb' hdb aB1 (λh=>ag3 (rM _ h)) (λh=>azf (rM _ h)) he
  obtain⟨σ',DV,F',g',k1,k2,k3,k4⟩:=ihl (λb hb=>by
   obtain⟨q1,q2,q3,q4⟩:=hal b (bW _ hb);refine⟨q1,q2,q3,λh=>?_⟩;rcases dH.1 h with h|h
   .exact q4 h
   .simp at h;subst h;exact hnd.1 hb) hnd.2 hcore hstep
  refine⟨σ',DV,F',g',by simpa using k1,k2,λt ht=>?_,by rw[k4,iP]⟩;have h1:t∉rW ins nO:=λh=>ht (jM.2 (by obtain⟨i,hi,hd⟩:=jM.1 h;exact⟨i,bW _ hi,hd⟩));have h2:d≠t:=λe=>ht (jM.2 ⟨a,by simp,by rw[hdst,e]⟩);rw[k3 t h1,dQ];simp[h2]
end
section
variable {P:Program}{Hn H2:Hints}{comp:FuncId->Code->aN}{g g' g'':G}{σ σ' sJ:H}{w w' w'':World}{β β' β'':Nat->Option Nat}{lo lo':Lo}{fr fr' F F':List V}{A A':Act}{B0:Nat}{ro:Option Nat}
variable {sw:Nat->Prop}{ops:Array Oper}{ins:Nat->Ins}{cls ms:Nat->Nat}{f:Nat}{listed:Array Bool}{win born todo:List Nat}{Gr:List V}{pb:Nat->Nat}{g0:G}{β0:Nat->Option Nat}{σ0:H}{w0:World}
def afD{ih:Ih}{tl:List Ins}{out:Out}(hout:out≠.fail):∀(chk:List Nat),(∀i∈chk,(∃d q,RU d q (ins i))/\(GL (ins i)).isSome=true)->fG ih (chk.map (λi=>(GL (ins i)).getD (.op none .bad))++tl) F lo σ=out ->
  fG ih tl F lo σ=out/\∀i∈chk,∀d q,RU d q (ins i)->nval (ins i) F lo σ=some (aA F d)
 |[],_,h=>⟨h,λi hi=>by simp at hi⟩
 |i::is,hall,h=>by
  obtain⟨⟨d,q,hni⟩,hsome⟩:=hall i (by simp);obtain⟨c,hc⟩:=Option.isSome_iff_exists.1 hsome;have hform:∃gd t o,c=.chk gd t o:=by
   unfold GL at hc
   split at hc
   .cases hc;exact⟨_,_,_,rfl⟩
   .cases hc;exact⟨_,_,_,rfl⟩
   .cases hc
  obtain⟨gd,t,o,rfl⟩:=hform;simp only[bD,dZ,hc,rJ,fG,E8]at h;cases hk:yg gd t o F lo σ with
  |false=>rw[hk]at h;simp only[cond_false]at h;exact absurd h.symm hout
  |true =>
   rw[hk]at h;simp only[cond_true]at h;obtain⟨h1,h2⟩:=afD hout is (λk hk=>hall k (bW _ hk)) h;refine⟨h1,λk hm d q hn=>?_⟩;rcases bU.1 hm with rfl|hm
   .exact ajY hn hc hk
   .exact h2 k hm d q hn
def Uc{i:Ins}{ih:Ih}{is:List Ins}(h:∀a b c,i≠.chk a b c):fG ih (i::is) Gr lo σ=Bz (fG ih is) (kT (CW ih) [] i Gr lo σ):=by
 cases i with
 |chk a b c=>exact absurd rfl (h a b c)
 |_=>rfl
def acD{i:Ins}{d q:Nat}(h:RU d q i):∀a b c,i≠.chk a b c:=by
 rintro a b c rfl;exact h
def afE{ih:Ih}{tl:List Ins}{out:Out}(hout:out≠.fail):∀(pre:List Nat) {Gr:List V},(∀i∈pre,∃d q,(ins i).dst=some d/\RU d q (ins i))->QC ins pre=true->fG ih (pre.map ins++tl) Gr lo σ=out ->
  ∃DV,fG ih tl DV lo σ=out/\DV.length=Gr.length/\(∀t,t∉rW ins pre->aA DV t=aA Gr t)/\∀i∈pre,∀d,(ins i).dst=some d->∃v,nval (ins i) DV lo σ=some v/\(d<DV.length->aA DV d=v)
 |[],Gr,_,_,h=>⟨Gr,h,rfl,λ_ _=>rfl,λi hi=>by simp at hi⟩
 |i::is,Gr,hall,hok,h=>by
  obtain⟨d,q,hd,hni⟩:=hall i (by simp);simp only[QC,ah]at hok;obtain⟨⟨h1,h2⟩,h3⟩:=hok;rw[bD,dZ,Uc (acD hni),ZX hni]at h;cases hv:nval (ins i) Gr lo σ with
  |none=>rw[hv]at h;exact absurd h.symm hout
  |some v =>
   rw[hv]at h;obtain⟨DV,k1,k2,k3,k4⟩:=afE hout is (λk hk=>hall k (bW _ hk)) h3 h;have hsub:∀t,t∈rW ins is->t∈rW ins (i::is):=λt ht=>by
    obtain⟨k,hk,e⟩:=jM.1 ht;exact jM.2 ⟨k,bW _ hk,e⟩
   refine⟨DV,k1,by rw[k2,iP],λt ht=>?_,λk hm d' hd'=>?_⟩
   .rw[k3 t (λx=>ht (hsub t x)),dQ];have:d≠t:=λe=>ht (jM.2 ⟨i,by simp,by rw[hd,e]⟩);simp[this]
   .rcases bU.1 hm with rfl|hm
    .rw[hd]at hd';cases hd';refine⟨v,?_,λhlt=>?_⟩
     .rw[<- hv];refine BK (λt ht=>?_) lo σ;have hn:=Bh.1 h1 t ht;rw[k3 t (λx=>hn (hsub t x)),dQ];have:d≠t:=λe=>hn (jM.2 ⟨_,bZ,by rw[hd,e]⟩);simp[this]
     .have hn:=Bh.1 h2 d (by simp[rdd,hd]);rw[k2,iP]at hlt;rw[k3 d hn,dQ];simp[hlt]
    .exact k4 k hm d' hd'
structure Cur (cls ms:Nat->Nat)(n:Nat)(aL nO:List Nat)(eff:Option Nat)(b0 lG:List Nat)(rest:List jh):Prop where
 ajB:∀a∈nO,cls a=3/\a∉b0/\∀e,eff=some e->(ms e).testBit a=true
 nodup:nO.Nodup
 GN:∀e,eff=some e->cls e=2/\e<n/\(∀e'∈lG,(ms e).testBit e'=true)/\∀a∈aL,(ms e).testBit a=true->a∈b0++nO
 last:eff=none->rest=[]
structure ael (ins:Nat->Ins)(cls ms:Nat->Nat)(n:Nat)(aL:List Nat)(s:jh)(rest:List jh)(Q7:List Nat)(nO:List Nat)(eff:Option Nat)(born lG:List Nat):Prop where
 sv:∀i∈Q7,(∀t∈rdd (ins i),t∉rW ins nO++(rW ins eff.toList++rW ins s.pre))/\(cls i=1->i∈s.chk)
 chk:∀i∈s.chk,i∈Q7/\(GL (ins i)).isSome=true
 QC:QC ins s.pre=true
 pre:∀i∈s.pre,cls i<2/\∀e,eff=some e->(ms i).testBit e=true
 cur:Cur cls ms n aL s.nO s.eff born (lG++eff.toList) rest
def kM{n:Nat}{aL:List Nat}{s:jh}{rest:List jh}{nO:List Nat}{eff:Option Nat}{lG:List Nat}(h:oJ ins cls ms n aL (s::rest) win nO eff born lG=true) :
  ael ins cls ms n aL s rest (vW ms win eff) nO eff born lG/\oJ ins cls ms n aL rest (vW ms win eff++s.pre) s.nO s.eff (born++s.nO) (lG++eff.toList)=true:=by
 simp only[oJ,ah]at h;obtain⟨⟨⟨⟨⟨⟨⟨⟨h1,h2⟩,h3⟩,h4⟩,h5⟩,h6⟩,h7⟩,h8⟩,h9⟩:=h;refine⟨⟨λi hi=>?_,λi hi=>?_,h3,λi hi=>?_,⟨λa ha=>?_,Ar.1 h6,λe he=>?_,λhe=>?_⟩⟩,h9⟩
 .have:=jW.1 h1 i hi;simp only[ah,gQ,fQ,pU]at this;refine⟨Bh.1 this.1,λhc=>?_⟩;rcases this.2 with h|h
  .rw[hc]at h;simp at h
  .exact h
 .have:=jW.1 h2 i hi;simp only[ah,pU]at this;exact this
 .have:=jW.1 h4 i hi;simp only[ah]at this;exact⟨by have:=this.1;rwa[Nat.blt_eq]at this,λe he=>H9.1 this.2 e he⟩
 .have:=jW.1 h5 a ha;simp only[ah,fQ]at this;refine⟨aP this.1.1,λhm=>?_,λe he=>H9.1 this.1.2 e he⟩;rw[pU.2 hm]at this;simp at this
 .have:=H9.1 h7 e he;simp only[ah]at this;refine⟨aP this.1.1.1,by have:=this.1.1.2;rwa[Nat.blt_eq]at this,λe' he'=>jW.1 this.1.2 e' he',λa ha hb=>?_⟩;have:=jW.1 this.2 a ha;rw[hb]at this;simpa[pU]using this
 .rw[he]at h8;simpa using h8
def Dw{n:Nat}{aL nO:List Nat}{eff:Option Nat}{lG:List Nat}(h:oJ ins cls ms n aL [] win nO eff born lG=true):eff=none/\∀a∈aL,a∈born:=by
 simp only[oJ,ah]at h;exact⟨by simpa using h.1,λa ha=>pU.1 (jW.1 h.2 a ha)⟩
def pz{n:Nat}{aL:List Nat}:∀(rest:List jh) {win nO born:List Nat} {eff:Option Nat} {lG:List Nat},oJ ins cls ms n aL rest win nO eff born lG=true ->
  ∀j∈kD rest,cls j=2/\j<n/\∀e∈lG++eff.toList,(ms j).testBit e=true
 |[],_,_,_,_,_,_=>λj hj=>by simp[kD]at hj
 |s::rest,win,nO,born,eff,lG,h=>λj hj=>by
  obtain⟨hs,hr⟩:=kM h;simp only[kD,wG,dH]at hj;rcases hj with hj|hj
  .have he:s.eff=some j:=by simpa[wH]using hj
   obtain⟨h1,h2,h3,_⟩:=hs.cur.GN j he;exact⟨h1,h2,h3⟩
  .obtain⟨h1,h2,h3⟩:=pz rest hr j hj;exact⟨h1,h2,λe he=>h3 e (rM _ he)⟩
def TI{n:Nat}{aL:List Nat}:∀(rest:List jh) {win nO born:List Nat} {eff:Option Nat} {lG:List Nat},oJ ins cls ms n aL rest win nO eff born lG=true->(eff=none->rest=[]) ->
  ∀i∈uH rest,∃e∈eff.toList++kD rest,(ms i).testBit e=true
 |[],_,_,_,_,_,_,_=>λi hi=>by simp[uH]at hi
 |s::rest,win,nO,born,eff,lG,h,hn=>λi hi=>by
  obtain⟨hs,hr⟩:=kM h;simp only[uH,wG,dH]at hi;rcases hi with hi|hi
  .cases he:eff with
   |none=>exact absurd (hn he) (by simp)
   |some e=>exact⟨e,by simp,(hs.pre i hi).2 e he⟩
  .obtain⟨e,he,hb⟩:=TI rest hr hs.cur.last i hi;refine⟨e,?_,hb⟩;simp only[kD,wG,dH]at he|-;exact .inr he
def enter{ih:Ih}{out:Out}{n:Nat}{aL Q7 nO b0 lG:List Nat}{eff:Option Nat}{s:jh}{rest:List jh}(hout:out≠.fail)(hs:Stat P H2 f ops ins cls ms sw)(hso:ael ins cls ms n aL s rest Q7 nO eff b0 lG)
  (hr:oJ ins cls ms n aL rest (Q7++s.pre) s.nO s.eff (b0++s.nO) (lG++eff.toList)=true)
  (hc:Core P Hn ops ins cls ms B0 g0 β0 σ0 w0 b0 lo σ Gr listed A w g β F pb) (hrun:fG ih (flatten ins (s::rest)) Gr lo σ=out)
  (hsv:∀i∈Q7,i<ops.size/\cls i<2) (hid:∀i∈Q7,¬done listed i->cls i=0->∀d,(ins i).dst=some d->∃v,nval (ins i) Gr lo σ=some v/\(d<Gr.length->aA Gr d=v))
  (hpre:∀i∈s.pre,¬done listed i) (hcov:∀i,i<ops.size->cls i<2->¬done listed i->i∈Q7\/i∈uH (s::rest))
  (hto:∀e∈kD (s::rest),¬done listed e) (htc:∀e,e<ops.size->cls e=2->¬done listed e->e∈kD (s::rest)) (hn:n=ops.size) :
  ∃DV,Inv P Hn ops ins cls ms B0 g0 β0 σ0 w0 (Q7++s.pre) b0 (s.eff.toList++kD rest) lo σ DV listed A w g β F pb /\
   fG ih (s.nO.map ins++(s.eff.toList.map ins++flatten ins rest)) DV lo σ=out/\∀i,i<ops.size->cls i<2->¬done listed i->i∈Q7++s.pre\/i∈uH rest:=by
 have hni:∀i,i<ops.size->cls i<2->∃d q,(ins i).dst=some d/\RU d q (ins i):=λi h1 h2=>by
  obtain⟨d,hd,hi⟩:=hs.low i h1 h2;exact⟨d,_,hd,hi⟩
 have PD:∀i∈s.pre,i<ops.size/\cls i<2:=λi hi=>by
  have:=(hso.pre i hi).1;exact⟨hs.OO i (by omega),this⟩
 have hsplit:flatten ins (s::rest)=s.chk.map (λi=>(GL (ins i)).getD (.op none .bad))++(s.pre.map ins++(s.nO.map ins++(s.eff.toList.map ins++flatten ins rest))):=by
  simp[flatten,aaP]
 rw[hsplit]at hrun;obtain⟨hrun1,Kr⟩:=afD hout s.chk (λi hi=>by
  obtain⟨h1,h2⟩:=hso.chk i hi;obtain⟨h3,h4⟩:=hsv i h1;obtain⟨d,q,_,h5⟩:=hni i h3 h4;exact⟨⟨d,q,h5⟩,h2⟩) hrun
 obtain⟨DV,k1,k2,k3,k4⟩:=afE hout s.pre (λi hi=>hni i (PD i hi).1 (PD i hi).2) hso.QC hrun1;have auf:∀i,i<ops.size->cls i<2->¬done listed i->i∈Q7++s.pre\/i∈uH rest:=λi h1 h2 h3=>by
  rcases hcov i h1 h2 h3 with h|h
  .exact .inl (rM _ h)
  .simp only[uH,wG,dH]at h;rcases h with h|h
   .exact .inl (List.mem_append_right _ h)
   .exact .inr h
 have heff:kD (s::rest)=s.eff.toList++kD rest:=by simp[kD]
 refine⟨DV,⟨⟨hc.size,hc.closed,hc.sc,hc.stp,by rw[k2];exact hc.len,λt=>?_,hc.Ou,hc.pend,hc.aaf⟩,λi hi hnd d hd=>?_,λi hi=>?_,λi h1 h2 h3=>?_,λe he=>?_,λe h1 h2 h3=>?_⟩,k1,auf⟩
 .by_cases ht:t∈rW ins s.pre
  .obtain⟨i,hi,hd⟩:=jM.1 ht;exact .inr (.inl ⟨i,(PD i hi).1,(PD i hi).2,hpre i hi,hd⟩)
  .rw[k3 t ht];exact hc.agr t
 .rcases dH.1 hi with hi|hi
  .obtain⟨h1,h2⟩:=hsv i hi;obtain⟨h3,h4⟩:=hso.sv i hi;have hsame:Same (ins i).slots DV Gr:=λt ht=>k3 t λhx=>h3 t (by unfold rdd;rw[hd];simp[ht]) (by simp[hx]);have ayZ:aA DV d=aA Gr d:=k3 d λhx=>h3 d (by unfold rdd;rw[hd];simp) (by simp[hx]);by_cases hc1:cls i=1
   .obtain⟨d',hd',hn'⟩:=hs.low i h1 h2;rw[hd]at hd';cases hd';exact⟨aA Gr d,by rw[BK hsame];exact Kr i (h4 hc1) d _ hn',λ_=>ayZ⟩
   .obtain⟨v,hv,hl⟩:=hid i hi hnd (by omega) d hd;exact⟨v,by rw[BK hsame];exact hv,λh=>by rw[ayZ];exact hl (by omega)⟩
  .exact k4 i hi d hd
 .rcases dH.1 hi with hi|hi
  .exact hsv i hi
  .exact PD i hi
 .rcases auf i h1 h2 h3 with h|h
  .exact .inl h
  .exact .inr (TI rest hr hso.cur.last i h)
 .rw[<- heff]at he;refine⟨?_,?_,hto e he⟩
  .rw[heff,dH]at he;rcases he with he|he
   .have:=(hso.cur.GN e (by simpa[wH]using he)).2.1;omega
   .have:=(pz rest hr e he).2.1;omega
  .rw[heff,dH]at he;rcases he with he|he
   .exact(hso.cur.GN e (by simpa[wH]using he)).1
   .exact(pz rest hr e he).1
 .rw[<- heff];exact htc e h1 h2 h3
end
section
variable {P:Program}{Hn H2:Hints}{comp:FuncId->Code->aN}{g g' g'':G}{σ σ' sJ:H}{w w' w'':World}{β β' β'':Nat->Option Nat}{lo lo':Lo}{fr fr' F F':List V}{A A':Act}{B0:Nat}{ro:Option Nat}
variable {sw:Nat->Prop}{ops:Array Oper}{ins:Nat->Ins}{cls ms:Nat->Nat}{f:Nat}{listed:Array Bool}{win born todo:List Nat}{Gr:List V}{pb:Nat->Nat}{g0:G}{β0:Nat->Option Nat}{σ0:H}{w0:World}
def Ol(cls:Nat->Nat)(n:Nat):List Nat:=(List.range n).filter λi=>Nat.beq (cls i) 3
structure Mid (P:Program)(Hn:Hints)(ops:Array Oper)(ins:Nat->Ins)(cls ms:Nat->Nat)(B0:Nat)(g0:G)(β0:Nat->Option Nat)(σ0:H)(w0:World)(ih:Ih)(out:Out)(rest:List jh)(win nO:List Nat)(eff:Option Nat)(b0 lG:List Nat)
  (lo:Lo) (σ:H) (Gr:List V) (listed:Array Bool) (A:Act) (w:World) (g:G) (β:Nat->Option Nat) (F:List V) (pb:Nat->Nat):Prop where
 inv:Inv P Hn ops ins cls ms B0 g0 β0 σ0 w0 win b0 (eff.toList++kD rest) lo σ Gr listed A w g β F pb
 cov:∀i,i<ops.size->cls i<2->¬done listed i->i∈win\/i∈uH rest
 cur:Cur cls ms ops.size (Ol cls ops.size) nO eff b0 lG rest
 ok:oJ ins cls ms ops.size (Ol cls ops.size) rest win nO eff (b0++nO) lG=true
 run:fG ih (nO.map ins++(eff.toList.map ins++flatten ins rest)) Gr lo σ=out
def X7{o:Oper}{gd:Option (Nat×Bool)}{t:Nat}{v:oM}:ig P H2 f ops o≠.chk gd t v:=by
 have hb:(yG P H2 f o).getD (.op none .bad)≠.chk gd t v:=by
  intro e;cases hc:yG P H2 f o with
  |none=>rw[hc]at e;cases e
  |some i0 =>
   rw[hc]at e;simp only[rJ]at e;subst e;unfold yG at hc
   split at hc<;>simp[au]at hc
 unfold ig;cases o.guard with
 |none=>exact hb
 |some q =>
  obtain⟨j,b⟩:=q;dsimp only;cases (ops[j]?).bind (·.dst)<;>simp
variable {ih:Ih}{out:Out}{rest:List jh}{nO b0 lG:List Nat}{eff:Option Nat}
def ad3(hout:out≠.fail)(hm:LC P Hn H2 ops ro ih)(hs:Stat P H2 f ops ins cls ms sw)(hi:Mid P Hn ops ins cls ms B0 g0 β0 σ0 w0 ih out rest win nO eff b0 lG lo σ Gr listed A w g β F pb){j:Nat}(hw:sw j->∀i,(ms j).testBit i=true->i<ops.size/\done listed i)(ay7:∀o,ops[j]?=some o->ins j=ig P H2 f ops o)(hr:j∈Region.ready .any ops listed)(hc:cls j=2)
  {Q:Exit->Act->World->Prop} {K:Act->World->Prop}
  (hK:∀A' w' g' β' F' s rest' aeb b0' OU lo' σ' DV,rest=s::rest'->Mid P Hn ops ins cls ms B0 g0 β0 σ0 w0 ih out rest' aeb s.nO s.eff b0' OU lo' σ' DV (listed.setIfInBounds j true) A' w' g' β' F' pb->K A' w'):wpOpIn (Fw ro) 0 P ops Q j K A w:=by
 obtain⟨hlt,hnd,hms⟩:=kS hs hw hi.inv.core.size hi.inv.core.closed hr;have hj:=hi.inv.MQ j hlt hc hnd;have heff:eff=some j:=by
  rcases dH.1 hj with h|h
  .simpa[wH]using h
  .cases he:eff with
   |none=>have:=hi.cur.last he;rw[this]at h;simp[kD]at h
   |some e =>
    have:=(pz rest hi.ok j h).2.2 e (by simp[he]);exact absurd (hms e this).2 (hi.inv.Fg e (by simp[he])).2.2
 subst heff;cases rest with
 |nil=>exact absurd (Dw hi.ok).1 (by simp)
 |cons s rest =>
 obtain⟨hso,hok⟩:=kM hi.ok;obtain⟨σ1,Gr1,F1,g1,hc1,hr1,hG1,hlen1⟩:=ajN hs nO (λa ha=>by
  obtain⟨h1,h2,h3⟩:=hi.cur.ajB a ha;exact⟨hs.OO a (by omega),h1,(hms a (h3 j rfl)).2,h2⟩) hi.cur.nodup hi.inv.core hi.run
 have ho:ops[j]?=some ops[j]:=rH hlt;have hins:=ay7 _ ho;simp only[Option.toList_some,bD,kX,dZ,je]at hr1;rw[Uc (by rw[hins];exact λ_ _ _=>X7)]at hr1;obtain⟨Gr2,lo2,σ2,hst⟩:∃Gr2 lo2 σ2,kT (CW ih) [] (ins j) Gr1 lo σ1=.norm Gr2 lo2 σ2:=by
  cases hq:kT (CW ih) [] (ins j) Gr1 lo σ1 with
  |norm a b c=>exact⟨a,b,c,rfl⟩
  |_=>rw[hq]at hr1;exact absurd hr1.symm hout
 rw[hst]at hr1;have hr2:fG ih (flatten ins (s::rest)) Gr2 lo2 σ2=out:=hr1;have hsame:=hc1.same hs hlt hms (.inr ⟨hc,λa ha hca hb=>(hi.cur.GN j rfl).2.2.2 a (fZ.2 ⟨dh.2 ha,by simp[hca]⟩) hb⟩);obtain⟨v,hG2,hF⟩:=Yo (hs.loc j hlt) hsame hst;have hdst:(ins j).dst=ops[j].dst:=by
  have:(ig P H2 f ops ops[j]).dst=ops[j].dst:=JY (by
   rw[<- hins];intro e;rw[e]at hst;have h2:kT (CW ih) [] (.op none .bad) Gr1 lo σ1=.fail:=rfl;rw[h2]at hst;cases hst)
  rw[<- this,hins]
 have hF2:kT (CW ih) [] (ig P H2 f ops ops[j]) F1 lo σ1=.norm (bG F1 (ins j).dst v) lo2 σ2:=by rw[<- hins];exact hF
 refine amQ (ih:=CW ih) hm.call hm.app hm.idle hm.loc ho (hm.hdef ho) hc1.sc (by rw[hF2];simp) λg' β' σ' lo' fr' A' w' hsc hst' hA he=>?_;rw[hF2,xC]at he;simp only[Out.norm.injEq]at he;obtain⟨rfl,rfl,rfl⟩:=he;have hc2:=hc1.put (dj:=(ins j).dst) (v:=v) (DV:=Gr2) hs hw hr rfl (by omega) (by rw[hG2,EU]) (λt=>by
  by_cases ht:(ins j).dst=some t
  .exact .inl (by rw[hG2];exact EK hc1.len ht)
  .exact .inr ⟨ht,by rw[hG2];exact yh ht⟩) hsc hst' (by rw[hdst];exact hA)
 have hmask:∀i,(ms j).testBit i=true->done listed i:=λi hb=>(hms i hb).2;refine Exists.elim (enter (n:=ops.size) (aL:=Ol cls ops.size) hout hs hso hok hc2 hr2 (λi hi'=>?_) (λi hi' hn hc0 d hd=>?_) (λi hi' hd=>?_) (λi k1 k2 k3=>?_) (λe he hd=>?_) (λe k1 k2 k3=>?_) rfl) λGr3 h=>?_
 .exact hi.inv.UU i (fZ.1 hi').1
 .have hw:=(fZ.1 hi').1;obtain⟨x,hx,hl⟩:=hi.inv.idem i hw (λh=>hn (dM.2 (.inl h))) d hd;obtain⟨q1,q2⟩:=hi.inv.UU i hw;obtain⟨d',hd',hni⟩:=hs.low i q1 q2;rw[hd]at hd';cases hd';have hdis:=(hso.sv i hi').1;have hun:∀t∈rdd (ins i),aA Gr2 t=aA Gr t:=λt ht=>by
   have hx:=hdis t ht;rw[hG2,yh (λe=>hx (List.mem_append_right _ (rM _ (jM.2 ⟨j,by simp,e⟩)))),hG1 t (λe=>hx (rM _ e))]
  refine⟨x,?_,λhlen=>?_⟩
  .rw[BK (G:=Gr) (λt ht=>hun t (by unfold rdd;rw[hd];simp[ht]))];rw[hc0]at hni;exact Ue hni hx _ _
  .rw[hun d (by unfold rdd;rw[hd];simp)];exact hl (by rw[hG2,EU,hlen1]at hlen;exact hlen)
 .obtain⟨q1,q2⟩:=hso.pre i hi';rcases dM.1 hd with hd|rfl
  .exact hnd (hi.inv.core.closed i (hs.OO i (by omega)) hd j (q2 j rfl)).2
  .omega
 .have hn:¬done listed i:=λh=>k3 (dM.2 (.inl h));rcases hi.cov i k1 k2 hn with h|h
  .refine .inl (fZ.2 ⟨h,?_⟩);cases hb:(ms j).testBit i with
   |false=>rfl
   |true=>exact absurd (hmask i hb) hn
  .exact .inr h
 .have hl:=pz _ hi.ok e he;rcases dM.1 hd with hd|rfl
  .exact(hi.inv.Fg e (List.mem_append_right _ he)).2.2 hd
  .exact hnd (hmask j (hl.2.2 j (by simp)))
 .have hn:¬done listed e:=λh=>k3 (dM.2 (.inl h));have:=hi.inv.MQ e k1 k2 hn;rcases dH.1 this with h|h
  .simp at h;exact absurd (dM.2 (.inr h.symm)) k3
  .exact h
 .obtain⟨h1,h2,h3⟩:=h;exact hK A' w' g' β' _ s rest _ (b0++nO) _ _ _ Gr3 rfl ⟨h1,h3,hso.cur,hok,h2⟩
def mid_end(hs:Stat P H2 f ops ins cls ms sw)(hi:Mid P Hn ops ins cls ms B0 g0 β0 σ0 w0 ih out rest win nO eff b0 lG lo σ Gr listed A w g β F pb)(hall:∀i,i<ops.size->done listed i):kV P (aX P Hn) B0 g0 β0 σ0 w0 out .normal A w:=by
 have heff:eff=none:=by
  cases he:eff with
  |none=>rfl
  |some e =>
   have:=hi.inv.Fg e (by simp[he]);exact absurd (hall e this.1) this.2.2
 subst heff;have hrest:=hi.cur.last rfl;subst hrest;obtain⟨_,ayR⟩:=Dw hi.ok;obtain⟨σ1,Gr1,F1,g1,hc1,hr1,_,_⟩:=ajN hs nO (λa ha=>by
  obtain⟨h1,h2,_⟩:=hi.cur.ajB a ha;have:=hs.OO a (by omega);exact⟨this,h1,hall a this,h2⟩) hi.cur.nodup hi.inv.core hi.run
 have hr2:Out.norm Gr1 lo σ1=out:=hr1;have hF:F1=Gr1:=OZ hc1.len λt=>by
  rcases hc1.agr t with h|⟨k,hk,_,hnd,_⟩|⟨a,ha,hca,hnb,_⟩
  .exact h
  .exact absurd (hall k hk) hnd
  .exact absurd (ayR a (fZ.2 ⟨dh.2 ha,by simp[hca]⟩)) hnb
 subst hF;exact⟨F1,lo,σ1,.inl ⟨hr2.symm,rfl⟩,g1,β,hc1.sc,hc1.stp⟩
def ready_nil{listed:Array Bool}(hl:listed.size=ops.size)(hlow:∀i o,ops[i]?=some o->∀e∈o.after,Region.binds .any e=true->e.on<i)(h:Region.ready .any ops listed=[]):∀i,i<ops.size->done listed i:=by
 intro i
 induction i using Nat.strongRecOn with
 |ind i ihi =>
  intro hlt;by_cases hd:done listed i
  .exact hd
  .exfalso;have:i∈Region.ready .any ops listed:=by
    refine mem_ready.2 ⟨by unfold done at hd;simpa using hd,ops[i],rH hlt,λe he hb=>?_⟩;have h1:=hlow i _ (rH hlt) e he hb;have h2:=ihi e.on h1 (by omega);unfold done at h2;simp only[Array.getD,show e.on<listed.size by omega,dif_pos]at h2|-;exact h2
   rw[h]at this;simp at this
def qZ(ops:Array Oper)(listed:Array Bool):List Nat:=(List.range ops.size).filter λi=>decide (¬done listed i)
def Iq{listed:Array Bool}{j:Nat}(hj:j<ops.size)(hn:¬done listed j):(qZ ops (listed.setIfInBounds j true)).length<(qZ ops listed).length:=by
 have he:qZ ops (listed.setIfInBounds j true)=(qZ ops listed).filter λi=>decide (j≠i):=by
  unfold qZ;rw[List.filter_filter];refine List.filter_congr λi _=>?_;rw[oq];simp only[ah,decide_eq_true_iff,dM,not_or];exact⟨λ⟨a,b⟩=>⟨b,a⟩,λ⟨a,b⟩=>⟨b,a⟩⟩
 rw[he];exact List.length_filter_lt_length_iff_exists.2 ⟨j,fZ.2 ⟨dh.2 hj,by simpa using hn⟩,by simp⟩
def ae9(hsw:∀j,¬sw j)(hout:out≠.fail)(hm:LC P Hn H2 ops ro ih)(hs:Stat P H2 f ops ins cls ms sw):∀(fuel:Nat) {rest:List jh} {win nO:List Nat} {eff:Option Nat} {b0 lG:List Nat} {lo:Lo} {σ:H} {Gr:List V} {listed:Array Bool} {A:Act} {w:World} {g:G} {β:Nat->Option Nat} {F:List V} {pb:Nat->Nat},
  (qZ ops listed).length<=fuel->Mid P Hn ops ins cls ms B0 g0 β0 σ0 w0 ih out rest win nO eff b0 lG lo σ Gr listed A w g β F pb ->
  wpAnyIn (Fw ro) 0 P .any ops (kV P (aX P Hn) B0 g0 β0 σ0 w0 out) fuel listed A w:=by
 intro fuel
 induction fuel with
 |zero =>
  intro rest win nO eff b0 lG lo σ Gr listed A w g β F pb hle hi;have hall:∀i,i<ops.size->done listed i:=λi hlt=>by
   by_cases hd:done listed i
   .exact hd
   .have:i∈qZ ops listed:=fZ.2 ⟨dh.2 hlt,by simpa using hd⟩;have:=List.length_pos_of_mem this;omega
  refine⟨?_,mid_end hs hi hall⟩;refine List.eq_nil_iff_forall_not_mem.2 λj hj=>?_;obtain⟨h1,h2,_⟩:=kS hs (λh=>absurd h (hsw _)) hi.inv.core.size hi.inv.core.closed hj;exact h2 (hall j h1)
 |succ fuel ihf =>
  intro rest win nO eff b0 lG lo σ Gr listed A w g β F pb hle hi;refine⟨λhnil=>mid_end hs hi (ready_nil hi.inv.core.size hs.awu hnil),λj hj=>?_⟩;obtain⟨h1,h2,_⟩:=kS hs (λh=>absurd h (hsw _)) hi.inv.core.size hi.inv.core.closed hj;have hlt:(qZ ops (listed.setIfInBounds j true)).length<=fuel:=by have:=Iq h1 h2;omega
  have hcov:∀i,i<ops.size->cls i<2->¬done (listed.setIfInBounds j true) i->i∈win\/i∈uH rest:=λi k1 k2 k3=>hi.cov i k1 k2 λh=>k3 (dM.2 (.inl h));rcases hs.cl3 j with hc|hc|hc
  .exact ad4 hm hs hi.inv (hsw j) hj hc λA' w' g' β' F' hi'=>ihf hlt ⟨hi',hcov,hi.cur,hi.ok,hi.run⟩
  .exact ad3 hout hm hs hi (λh=>absurd h (hsw _)) (λo h=>hs.TB j o (hsw j) h) hj hc λA' w' g' β' F' s rest' aeb b0' OU lo' σ' DV _ hi'=>ihf hlt hi'
  .exact an5 hs hi.inv (hsw j) hj hc λA' w' g' β' F' pb' hi'=>ihf hlt ⟨hi',hcov,hi.cur,hi.ok,hi.run⟩
end
section
variable {P:Program}{Hn H2:Hints}{comp:FuncId->Code->aN}{g g' g'':G}{σ σ' sJ:H}{w w' w'':World}{β β' β'':Nat->Option Nat}{lo lo':Lo}{fr fr' F F':List V}{A A':Act}{B0:Nat}{ro:Option Nat}
def Df.drawn{k:Nat}:∀{l:List Deferred},Df P B0 w l->Df P B0 { w with drawn:=k } l
 |[],_=>trivial
 |_::_,h=>⟨h.1,Df.drawn h.2⟩
def Sc.drawn{k:Nat}(h:Sc P comp B0 g β σ lo fr A w):Sc P comp B0 g β σ lo fr A { w with drawn:=k } where
 s:=⟨h.s.f,⟨h.s.b.1,h.s.b.2,h.s.b.3⟩,⟨λb o v hv=>h.s.w.frozen b o v hv,λi ob hi=>let⟨b,n,h1,h2,h3⟩:=h.s.w.objs i ob hi;⟨b,n,h1,Ro.mono (.refl g) rfl h2,h3⟩,h.s.w.inj,h.s.w.fresh,h.s.w.bound⟩⟩
 d:=h.d.drawn
 le:=h.le
def Stp.drawn{k:Nat}:Stp g β σ w g β σ { w with drawn:=k }:=⟨.refl g,⟨rfl,rfl,rfl,aJ _,λ_ _ _ _ _=>rfl⟩,λ_ h _=>h,λt b h _=>⟨t,h⟩,λ_ _ h _=>h⟩
def oM.akb(o:oM):o.cls<=2:=by
 cases o<;>simp only[oM.cls]<;>first|omega|(cases Nat.beq _ _<;>simp)
def insOf(P:Program)(H2:Hints)(f:Nat)(ops:Array Oper)(i:Nat):Ins:=(ops.toList.map (ig P H2 f ops)).getD i (.op none .bad)
def C9(ops:Array Oper)(i:Nat):Nat:=(masks ops.toList).getD i 0
def kP(P:Program)(H2:Hints)(f:Nat)(ops:Array Oper)(i:Nat):Nat:=(ops.toList.map λo=>zC o (ig P H2 f ops o)).getD i 2
def I4{ops:Array Oper}{f i:Nat}{o:Oper}(h:ops[i]?=some o):insOf P H2 f ops i=ig P H2 f ops o:=by
 unfold insOf;rw[List.getD,iW,qc,h];rfl
def xM{ops:Array Oper}{f i:Nat}{o:Oper}(h:ops[i]?=some o):kP P H2 f ops i=zC o (insOf P H2 f ops i):=by
 rw[I4 h];unfold kP;rw[List.getD,iW,qc,h];rfl
def zi{ops:Array Oper}{f i:Nat}(h:kP P H2 f ops i≠2):i<ops.size:=by
 by_cases hl:i<ops.size
 .exact hl
 .exfalso;apply h;unfold kP;rw[List.getD,gU (by simp;omega)];rfl
def KL{a b:Nat}(h:a≠b):(!(Nat.beq a b))=true:=by
 cases hb:Nat.beq a b with
 |false=>rfl
 |true=>exact absurd (aP hb) h
def Hz{o:Oper}{i:Ins}(h:zC o i<2):∃d,i.dst=some d/\RU d (zC o i) i:=by
 unfold zC at h|-
 split at h
 .omega
 .split at h
  .omega
  .rename_i d v _;exact⟨d,rfl,rfl,aJ _,h⟩
  .rename_i t b d d' v;cases hb:Nat.beq d d' with
   |false=>rw[hb]at h;simp at h
   |true =>
    have:=aP hb;subst this;rw[hb]at h;simp only[cond_true]at h|-;refine⟨d,rfl,rfl,rfl,?_,h⟩
    split at h<;>rename_i hc<;>first|(rw[hc];simp;done)|omega
  .omega
def PL{o:Oper}{i:Ins}(h:zC o i=3):∃d z,i=.op (some d) (.jy z):=by
 unfold zC at h
 split at h
 .omega
 .split at h
  .rename_i d z;exact⟨d,z,rfl⟩
  .rename_i v _;have:=v.akb;omega
  .rename_i t b d d' v;cases hb:Nat.beq d d' with
   |false=>rw[hb]at h;simp at h
   |true =>
    rw[hb]at h;simp only[cond_true]at h
    split at h<;>omega
  .omega
def Ky{o:Oper}{i:Ins}:zC o i<=3:=by
 unfold zC
 split
 .omega
 .split
  .omega
  .rename_i v _;have:=v.akb;omega
  .rename_i t b d d' v;cases Nat.beq d d'
   .simp
   .simp only[cond_true];split<;>omega
  .omega
def yK:∀{l:List Oper} {k:Nat},qU l k=true->∀i o,l[i]?=some o->∀e∈o.after,Region.binds .any e=true->e.on<k+i
 |[],_,_,i,o,h=>by simp at h
 |x::xs,k,hl,i,o,h=>λe he hb=>by
  simp only[qU,ah,List.all_eq_true]at hl;cases i with
  |zero =>
   simp at h;subst h;have:=hl.1 e (Array.mem_toList_iff.2 he);rw[hb]at this;simp at this;omega
  |succ i =>
   simp at h;have:=yK hl.2 i o h e he hb;omega
def aaj{f:Nat}{ops:Array Oper}{l:List jh}(h:WX P Hn f ops=some l) :
  Em (insOf P (iI Hn) f ops) (kP P (iI Hn) f ops) (C9 ops) ops.size l=true/\qU ops.toList 0=true/\l≠[]:=by
 unfold WX at h;dsimp only at h
 split at h
 .rename_i hc;cases h;simp only[ah]at hc;refine⟨hc.1.1,hc.1.2,?_⟩;intro e;have:=hc.2;rw[e]at this;simp at this
 .cases h
structure JQ (ins:Nat->Ins)(cls ms:Nat->Nat)(n:Nat)(l:List jh):Prop where
 cover:∀i,i<n->(cls i<2/\i∈uH l)\/(cls i=2/\i∈kD l)\/cls i=3
 nodup:(rW ins ((List.range n).filter λi=>!(Nat.beq (cls i) 2))).Nodup
 avs:∀t∈rW ins ((List.range n).filter λi=>Nat.beq (cls i) 2),t∉rW ins ((List.range n).filter λi=>!(Nat.beq (cls i) 2))
 reads:∀i j t,i<n->j<n->cls i≠3->cls j≠2->(ins j).dst=some t->t∈(ins i).slots->(ms i).testBit j=true/\(cls i=2\/cls j≠3)
 loc:∀i,i<n->Gh (ins i)=true
 stages:oJ ins cls ms n (Ol cls n) l [] [] none [] []=true
def CQ{ins:Nat->Ins}{cls ms:Nat->Nat}{n:Nat}{l:List jh}(h:Em ins cls ms n l=true):JQ ins cls ms n l:=by
 simp only[Em,ah]at h;obtain⟨⟨⟨⟨⟨⟨h1,h2⟩,h3⟩,h4⟩,h5⟩,h6⟩,h7⟩:=h;refine⟨λi hi=>?_,Ar.1 h2,Bh.1 h4,λi j t hi hj hci hcj hd ht=>?_,λi hi=>jW.1 h6 i (dh.2 hi),h7⟩
 .have:=jW.1 h1 i (dh.2 hi);simp only[gQ,ah,pU,Nat.blt_eq]at this;rcases this with(⟨a,b⟩|⟨a,b⟩)|a
  .exact .inl ⟨a,b⟩
  .exact .inr (.inl ⟨aP a,b⟩)
  .exact .inr (.inr (aP a))
 .have:=jW.1 h5 i (fZ.2 ⟨dh.2 hi,KL hci⟩);have:=jW.1 this j (fZ.2 ⟨dh.2 hj,KL hcj⟩);rw[hd]at this;simp only[pU.2 ht,Bool.not_true,Bool.false_or,ah,gQ]at this;refine⟨this.1,?_⟩;rcases this.2 with h|h
  .exact .inl (aP h)
  .refine .inr λe=>?_;rw[e]at h;simp at h
def asL{f:Nat}{ops:Array Oper}{l:List jh}(hf:JQ (insOf P H2 f ops) (kP P H2 f ops) (C9 ops) ops.size l)(hl:qU ops.toList 0=true):Stat P H2 f ops (insOf P H2 f ops) (kP P H2 f ops) (C9 ops) (λ_=>False):=by
 have hget:∀i,i<ops.size->ops[i]?=some ops[i]!:=λi hi=>by simp[hi]
 refine⟨λi o _ h=>I4 h,λi hi hc=>?_,λi hi hc=>?_,λi=>?_,λi o j _ ho hb=>?_,λi j d hi hj hci hcj h1 h2=>?_,λe i d he hi hce hci h1 h2=>?_,hf.reads,hf.loc,λi hc=>zi hc,λi o ho e he hb=>?_⟩
 .rw[xM (hget i hi)]at hc|-;exact Hz hc
 .rw[xM (hget i hi)]at hc;exact PL hc
 .by_cases hi:i<ops.size
  .have:=Ky (o:=ops[i]!) (i:=insOf P H2 f ops i);rw[xM (hget i hi)];omega
  .by_cases hc:kP P H2 f ops i=2
   .omega
   .exact absurd (zi hc) hi
 .obtain⟨e,he,hbe,h⟩:=F9 (ops:=ops.toList) (by rw[qc];exact ho) hb;exact⟨e,Array.mem_toList_iff.1 he,hbe,h⟩
 .refine IE hf.nodup i ?_ j ?_ h1 h2 (List.Pairwise.filter _ List.nodup_range)
  .exact fZ.2 ⟨dh.2 hi,KL hci⟩
  .exact fZ.2 ⟨dh.2 hj,KL hcj⟩
 .exact hf.avs d (jM.2 ⟨e,fZ.2 ⟨dh.2 he,by simpa using hce⟩,h1⟩) (jM.2 ⟨i,fZ.2 ⟨dh.2 hi,KL hci⟩,h2⟩)
 .have:=yK hl i o (by rw[qc];exact ho) e he hb;omega
end
section
variable {P:Program}{Hn H2:Hints}{comp:FuncId->Code->aN}{g g' g'':G}{σ σ' sJ:H}{w w' w'':World}{β β' β'':Nat->Option Nat}{lo lo':Lo}{fr fr' F F':List V}{A A':Act}{B0:Nat}{ro:Option Nat}
variable {ops:Array Oper}{ins:Nat->Ins}{cls ms:Nat->Nat}{f:Nat}{listed:Array Bool}{win born todo:List Nat}{Gr:List V}{pb:Nat->Nat}{g0:G}{β0:Nat->Option Nat}{σ0:H}{w0:World}
variable {ih:Ih}{out:Out}{rest:List jh}{nO b0 lG:List Nat}{eff:Option Nat}
def QG{α:Type}(a b:Option α):∀(n m:Nat) (t:T α) (i j:Nat),i<n->j<m->i≠j->T.oI a n (T.oI b m t j) i=T.oI b m (T.oI a n t i) j
 |0,_,_,_,_,h,_,_=>absurd h (by omega)
 |_+1,0,_,_,_,_,h,_=>absurd h (by omega)
 |n+1,m+1,t,i,j,hi,hj,hne=>by
  have ih:=QG a b n m;have z:∀k:Nat,k≠0->Nat.beq k 0=false:=λk hk=>by cases k<;>first|rfl|exact absurd rfl hk
  have par:∀k:Nat,k%2=1->Nat.beq (k%2) 1=true:=λk hk=>by rw[hk];rfl
  have aie:∀k:Nat,¬k%2=1->Nat.beq (k%2) 1=false:=λk hk=>by
   have:k%2=0:=by omega
   rw[this];rfl
  by_cases h1:i=0
  .by_cases h2:j=0
   .omega
   .subst h1;have q:=z j h2;by_cases p:j%2=1
    .cases t<;>simp only[T.oI,q,par j p,cond_true,cond_false,jP]
    .cases t<;>simp only[T.oI,q,aie j p,cond_true,cond_false,jP]
  .by_cases h2:j=0
   .subst h2;have q:=z i h1;by_cases p:i%2=1
    .cases t<;>simp only[T.oI,q,par i p,cond_true,cond_false,jP]
    .cases t<;>simp only[T.oI,q,aie i p,cond_true,cond_false,jP]
   .have q1:=z i h1;have q2:=z j h2;by_cases p1:i%2=1<;>by_cases p2:j%2=1
    .cases t<;>simp only[T.oI,q1,q2,par i p1,par j p2,cond_true,cond_false]<;>rw[ih _ (i / 2) (j / 2) (by omega) (by omega) (by omega)]
    .cases t<;>simp only[T.oI,q1,q2,par i p1,aie j p2,cond_true,cond_false]
    .cases t<;>simp only[T.oI,q1,q2,aie i p1,par j p2,cond_true,cond_false]
    .cases t<;>simp only[T.oI,q1,q2,aie i p1,aie j p2,cond_false]<;>rw[ih _ (i / 2-1) (j / 2-1) (by omega) (by omega) (by omega)]
def H.set_comm(h:H){i j:Nat}(a b:Obj)(hne:i≠j):(h.set i a).set j b=(h.set j b).set i a:=by
 have:=QG (some b) (some a) (j+1) (i+1) h.objs j i (by omega) (by omega) (Ne.symm hne);simp only[H.set,T.put];rw[this]
def IX{h:H}{i j:Nat}{o:Obj}(hne:i≠j):getCells (h.set i o) j=getCells h j:=by
 unfold getCells;rw[H.qG,if_neg hne]
def QY{n i off:Nat}{a y:aC}{v:V}{lo':Lo}{h h':H}(ha:a.ev fr=.bg i off)(hq:lq n a y fr lo h=.ok v lo' h') :
  ∃cs cs':List V,v=.undef/\lo'=lo/\getCells h i=some cs/\h'=h.set i (.cells cs')/\∀h2,getCells h2 i=some cs->lq n a y fr lo h2=.ok .undef lo (h2.set i (.cells cs')):=by
 have key:∀u:V,(bif Nat.beq u.cells.length n&&bf u.cells then bH (a.ev fr) u.cells lo h else .fail)=.ok v lo' h'->∃cs cs':List V,v=.undef/\lo'=lo/\getCells h i=some cs/\h'=h.set i (.cells cs')/\∀h2,getCells h2 i=some cs->(bif Nat.beq u.cells.length n&&bf u.cells then bH (a.ev fr) u.cells lo h2 else .fail)=.ok .undef lo (h2.set i (.cells cs')):=by
  intro u hq;cases hc:(Nat.beq u.cells.length n&&bf u.cells)with
  |false=>rw[hc]at hq;cases hq
  |true =>
   rw[hc]at hq;simp only[cond_true,ha,bH]at hq|-;cases hg:getCells h i with
   |none=>rw[hg]at hq;cases hq
   |some cs =>
    rw[hg]at hq;dsimp only at hq;cases hs:splice off cs u.cells with
    |none=>rw[hs]at hq;cases hq
    |some cs' =>
     rw[hs]at hq;cases hq;refine⟨cs,cs',rfl,rfl,rfl,rfl,λh2 hg2=>?_⟩;rw[hg2];dsimp only;rw[hs]
 unfold lq at hq|-;cases hy:y.ev fr with
 |aY t o=>rw[hy]at hq;cases hq
 |undef=>rw[hy]at hq;cases hq
 |_=>rw[hy]at hq;exact key _ hq
def NR{e1 e2 i:Nat}(h:i≠e2):Dc ms e1 e2 i=ms i:=by
 unfold Dc;rw[Iy h];rfl
def EL{e1 e2 i j:Nat}(h:(ms i).testBit j=true):(Dc ms e1 e2 i).testBit j=true:=by
 by_cases hi:i=e2
 .subst hi;unfold Dc;rw[abA];simp[Nat.testBit_or,h]
 .rw[NR hi];exact h
def arL{e1 e2 j:Nat}(h:(Dc ms e1 e2 e2).testBit j=true):(ms e2).testBit j=true\/j=e1\/(ms e1).testBit j=true:=by
 unfold Dc at h;rw[abA]at h;simp only[cond_true,Nat.testBit_or,gQ]at h;rcases h with h|h|h
 .exact .inl h
 .rw[Nat.testBit_two_pow]at h;exact .inr (.inl (of_decide_eq_true h).symm)
 .exact .inr (.inr h)
structure SwF (ins:Nat->Ins)(cls ms:Nat->Nat)(n e1 e2 p1 p2:Nat)(out:Out):Prop where
 i1:∃k x,ins e1=.op none (.store k (.tmp p1) x)
 i2:∃k x,ins e2=.op none (.store k (.tmp p2) x)
 lt1:e1<n
 lt2:e2<n
 ne:e1≠e2
 nb:(ms e1).testBit e2=false
 c1:cls e1=2
 c2:cls e2=2
 oth:∀e,e<n->cls e=2->e≠e1->e≠e2->(ms e2).testBit e=true
 one:∀i,i<n->cls i=1->(ms e2).testBit i=true
 neq:∀F l h,out=.norm F l h->∃a b o q,aA F p1=.bg a o/\aA F p2=.bg b q/\a≠b
def SwI(e1 e2:Nat)(nO:List Nat)(eff:Option Nat)(rest:List jh):Prop:=(eff=some e1->nO=[]/\XD e2 rest=true)/\Fb e1 e2 rest=true
def Vp{a b:Option Nat}(h:Yu a b=true):a=b:=by
 cases a<;>cases b<;>first|rfl|cases h|skip
 rw[aP (show Nat.beq _ _=true from h)]
def qh{l:List Nat}(h:zD l=true):l=[]:=by
 cases l with
 |nil=>rfl
 |cons a l=>cases h
def ajb{e2:Nat}{r:List jh}(h:XD e2 r=true):r=[⟨[],[],[],some e2⟩,⟨[],[],[],none⟩]:=by
 unfold XD at h
 split at h
 .rename_i b c;simp only[ah]at h;obtain⟨⟨⟨⟨⟨⟨⟨h1,h2⟩,h3⟩,h4⟩,h5⟩,h6⟩,h7⟩,h8⟩:=h;obtain⟨b1,b2,b3,b4⟩:=b;obtain⟨c1,c2,c3,c4⟩:=c;dsimp only at h1 h2 h3 h4 h5 h6 h7 h8;rw[qh h1,qh h2,qh h3,Vp h4,qh h5,qh h6,qh h7,Vp h8]
 .cases h
def SwI.next{e1 e2:Nat}{s:jh}(h:SwI e1 e2 nO eff (s::rest)):SwI e1 e2 s.nO s.eff rest:=by
 have h2:=h.2;simp only[Fb,ah,gQ,fQ]at h2;refine⟨λhe=>?_,h2.2⟩;rcases h2.1 with h3|h3
 .rw[he]at h3;simp[Yu]at h3
 .exact⟨qh h3.1,h3.2⟩
variable {e1 e2 p1 p2:Nat}
def asM(hout:out≠.fail)(hm:LC P Hn H2 ops ro ih)(hs':Stat P H2 f ops ins cls (Dc ms e1 e2) (λj=>j=e2))(hs:Stat P H2 f ops ins cls ms (λ_=>False))(hf:SwF ins cls ms ops.size e1 e2 p1 p2 out)
  (hi:Mid P Hn ops ins cls (Dc ms e1 e2) B0 g0 β0 σ0 w0 ih out rest win nO eff b0 lG lo σ Gr listed A w g β F pb) (hsi:SwI e1 e2 nO eff rest) (hr:e2∈Region.ready .any ops listed) (hnd1:¬done listed e1)
  {Q:Exit->Act->World->Prop} {K:Act->World->Prop}
  (hK:∀A' w' g' β' rest' aeb ayr ayD b0' OU lo' σ',Mid P Hn ops ins cls ms B0 g0 β0 σ0 w0 ih out rest' aeb ayr ayD b0' OU lo' σ' Gr (listed.setIfInBounds e2 true) A' w' g' β' F pb->K A' w'):wpOpIn (Fw ro) 0 P ops Q e2 K A w:=by
 have hcl:Closed ops ms listed:=λj hj hd i hb=>hi.inv.core.closed j hj hd i (EL hb);obtain⟨hlt,hnd,hms⟩:=kS hs (λh=>h.elim) hi.inv.core.size hcl hr;have h1t:=hi.inv.MQ e1 hf.lt1 hf.c1 hnd1;have h2t:=hi.inv.MQ e2 hf.lt2 hf.c2 hnd;have heff:eff=some e1:=by
  cases he:eff with
  |none=>have:=hi.cur.last he;rw[he,this]at h1t;simp[kD]at h1t
  |some e =>
   by_cases h1:e=e1
   .rw[h1]
   .exfalso;have hlm:∀j∈kD rest,(Dc ms e1 e2 j).testBit e=true:=λj hj=>(pz rest hi.ok j hj).2.2 e (by simp[he]);have ay1:=hi.cur.GN e he;by_cases h2:e=e2
    .subst h2;have h1r:e1∈kD rest:=by
      rcases dH.1 h1t with h|h
      .rw[he]at h;simp at h;exact absurd h.symm h1
      .exact h
     have:=hlm e1 h1r;rw[NR hf.ne,hf.nb]at this;cases this
    .exact(hi.inv.Fg e (by simp[he])).2.2 (hms e (hf.oth e ay1.2.1 ay1.1 h1 h2)).2
 obtain⟨avQ,htl⟩:=hsi.1 heff;have hrest:=ajb htl;subst heff avQ hrest;obtain⟨k1,x1,hi1⟩:=hf.i1;obtain⟨k2,x2,hi2⟩:=hf.i2;have hrun:fG ih [ins e1,ins e2] Gr lo σ=out:=hi.run;rw[hi1,hi2]at hrun;have r1:∀{X:List V} {l:Lo} {s:H} {is:List Ins} {k:Nat} {p:Nat} {x:aC},fG ih (.op none (.store k (.tmp p) x)::is) X l s=(match lq k (.tmp p) x X l s with|.ok _ l s=>fG ih is X l s|.fail=>.fail):=by
  intro X l s is k p x;have:fG ih (.op none (.store k (.tmp p) x)::is) X l s=Bz (fG ih is) (KC (CW ih) [] X none (lq k (.tmp p) x X l s)):=rfl;rw[this];cases lq k (.tmp p) x X l s<;>rfl
 rw[r1]at hrun;cases ho1:lq k1 (.tmp p1) x1 Gr lo σ with
 |fail=>rw[ho1]at hrun;exact absurd hrun.symm hout
 |ok v1 lo1 σ1 =>
 rw[ho1]at hrun;dsimp only at hrun;rw[r1]at hrun;cases ho2:lq k2 (.tmp p2) x2 Gr lo1 σ1 with
 |fail=>rw[ho2]at hrun;exact absurd hrun.symm hout
 |ok v2 lo2 σ2 =>
 rw[ho2]at hrun;have hfin:(.norm Gr lo2 σ2:Out)=out:=hrun;clear hrun;obtain⟨a,b,oa,ob,ha,hb,hab⟩:=hf.neq Gr lo2 σ2 hfin.symm;obtain⟨cs1,aFD,rfl,rfl,hg1,rfl,hst1⟩:=QY (a:=.tmp p1) ha ho1;obtain⟨cs2,akA,rfl,rfl,hg2,rfl,hst2⟩:=QY (a:=.tmp p2) hb ho2;rw[IX hab]at hg2;have aCj:=hst2 σ hg2;have aCi:=hst1 (σ.set b (.cells akA)) (by rw[IX (Ne.symm hab)];exact hg1);have hsame:Same (ins e2).slots F Gr:=by
  intro t ht;rcases hi.inv.core.agr t with h|⟨j,hj,hcj,aCf,hd⟩|⟨c,hc,hcc,hnb,hd⟩
  .exact h
  .exact absurd (hms j (hs.reads e2 j t hf.lt2 hj (by have:=hf.c2;omega) (by omega) hd ht).1).2 aCf
  .have hbit:=(hs.reads e2 c t hf.lt2 hc (by have:=hf.c2;omega) (by omega) hd ht).1;obtain⟨hso,_⟩:=kM hi.ok;have:=(hso.cur.GN e2 rfl).2.2.2 c (fZ.2 ⟨dh.2 hc,by simp[hcc]⟩) (EL hbit);simp at this;exact absurd this hnb
 have azo:kT (CW ih) [] (ins e2) Gr lo2 σ=.norm Gr lo2 (σ.set b (.cells akA)):=by
  rw[hi2];have:kT (CW ih) [] (.op none (.store k2 (.tmp p2) x2)) Gr lo2 σ=KC (CW ih) [] Gr none (lq k2 (.tmp p2) x2 Gr lo2 σ):=rfl;rw[this,aCj];rfl
 obtain⟨v,hG2,hF⟩:=Yo (hs.loc e2 hlt) hsame azo;have ho:ops[e2]?=some ops[e2]:=rH hlt;have hins:=hs.TB e2 _ (λh=>h) ho;have hdn:(ins e2).dst=none:=by rw[hi2];rfl
 have hdst:ops[e2].dst=none:=by
  have:(ig P H2 f ops ops[e2]).dst=ops[e2].dst:=JY (by rw[<- hins,hi2];intro e;cases e);rw[<- this,<- hins];exact hdn
 rw[hdn]at hF;have hF2:kT (CW ih) [] (ig P H2 f ops ops[e2]) F lo2 σ=.norm F lo2 (σ.set b (.cells akA)):=by rw[<- hins];exact hF
 have hcore:Core P Hn ops ins cls ms B0 g0 β0 σ0 w0 b0 lo2 σ Gr listed A w g β F pb:={ hi.inv.core with closed:=hcl };refine amQ (ih:=CW ih) hm.call hm.app hm.idle hm.loc ho (hm.hdef ho) hi.inv.core.sc (by rw[hF2];simp) λg' β' σ' aDC fr' A' w' hsc hst' hA he=>?_;rw[hF2,xC]at he;simp only[Out.norm.injEq]at he;obtain⟨rfl,rfl,rfl⟩:=he;have hc2:=hcore.put (dj:=none) (v:=.undef) (DV:=Gr) hs (λh=>h.elim) hr hdn (by have:=hf.c2;omega) rfl (λt=>.inr ⟨by simp,rfl⟩) hsc hst' (by rw[hdst]at hA;exact hA);obtain⟨hso,hok1⟩:=kM hi.ok;obtain⟨aGj,hok2⟩:=kM hok1;have aze:Dc ms e1 e2 e1=ms e1:=NR hf.ne;have hd1:(ins e1).dst=none:=by rw[hi1];rfl
 have hz:∀i,i<ops.size->cls i<2->¬done listed i->cls i=0:=λi h1 h2 h3=>by
  by_cases hc:cls i=1
  .exact absurd (hms i (hf.one i h1 hc)).2 h3
  .omega
 refine hK A' w' g' β' [⟨[],[],[],none⟩] win [] (some e1) b0 lG _ (σ.set b (.cells akA)) ⟨⟨hc2,λi hiw hn d hd=>?_,hi.inv.UU,λi h1 h2 h3=>?_,λe he=>?_,λe h1 h2 h3=>?_⟩,λi h1 h2 h3=>?_,⟨λc hc=>(by cases hc),List.nodup_nil,λe he=>?_,λhe=>(by cases he)⟩,?_,?_⟩
 .have hn':¬done listed i:=λh=>hn (dM.2 (.inl h));obtain⟨u,hu,hl⟩:=hi.inv.idem i hiw hn' d hd;obtain⟨q1,q2⟩:=hi.inv.UU i hiw;obtain⟨d',hd',hni⟩:=hs.low i q1 q2;rw[hd]at hd';cases hd';rw[hz i q1 q2 hn']at hni;exact⟨u,Ue hni hu _ _,hl⟩
 .have hn':¬done listed i:=λh=>h3 (dM.2 (.inl h));rcases hi.cov i h1 h2 hn' with h|h
  .exact .inl h
  .simp[uH]at h
 .have he:e=e1:=by simpa[kD]using he
  subst he;exact⟨hf.lt1,hf.c1,λh=>by rcases dM.1 h with h|h<;>first|exact hnd1 h|exact hf.ne h.symm⟩
 .have hn':¬done listed e:=λh=>h3 (dM.2 (.inl h));have:=hi.inv.MQ e h1 h2 hn';simp[kD]at this|-;rcases this with h|h
  .exact h
  .exact absurd (dM.2 (.inr h.symm)) h3
 .have hn':¬done listed i:=λh=>h3 (dM.2 (.inl h));rcases hi.cov i h1 h2 hn' with h|h
  .exact .inl h
  .simp[uH]at h
 .cases he;obtain⟨q1,q2,q3,q4⟩:=hi.cur.GN e1 rfl;rw[aze]at q3 q4;exact⟨q1,q2,q3,q4⟩
 .obtain⟨_,hall⟩:=Dw hok2;have hdd:rW ins [e1]=[]:=by simp[rW,hd1]
  simp only[oJ,ah,iY,Option.toList_some];have hsv:vW ms win (some e1)=vW (Dc ms e1 e2) win (some e1):=by simp only[vW,aze]
  refine⟨⟨⟨⟨⟨⟨⟨⟨jW.2 λi hiw=>?_,rfl⟩,rfl⟩,rfl⟩,rfl⟩,rfl⟩,rfl⟩,rfl⟩,rfl,jW.2 λc hc=>?_⟩
  .rw[hsv]at hiw;have:=(hso.sv i hiw).2;have hc1:cls i≠1:=λh=>by have:=this h;simp at this
   simp only[ah,gQ,fQ];refine⟨Bh.2 λt ht=>?_,.inl ?_⟩
   .rw[hdd];simp[rW]
   .exact Iy hc1
  .have:=hall c hc;simpa[pU]using this
 .have:fG ih [ins e1] Gr aDC (σ.set b (.cells akA))=out:=by
   rw[hi1,r1,aCi,<- hfin,H.set_comm _ _ _ hab];rfl
  exact this
def arx(hout:out≠.fail)(hm:LC P Hn H2 ops ro ih)(hs':Stat P H2 f ops ins cls (Dc ms e1 e2) (λj=>j=e2))(hs:Stat P H2 f ops ins cls ms (λ_=>False))(hf:SwF ins cls ms ops.size e1 e2 p1 p2 out) :
  ∀(fuel:Nat) {rest:List jh} {win nO:List Nat} {eff:Option Nat} {b0 lG:List Nat} {lo:Lo} {σ:H} {Gr:List V} {listed:Array Bool} {A:Act} {w:World} {g:G} {β:Nat->Option Nat} {F:List V} {pb:Nat->Nat},
  (qZ ops listed).length<=fuel->Mid P Hn ops ins cls (Dc ms e1 e2) B0 g0 β0 σ0 w0 ih out rest win nO eff b0 lG lo σ Gr listed A w g β F pb->SwI e1 e2 nO eff rest ->
  wpAnyIn (Fw ro) 0 P .any ops (kV P (aX P Hn) B0 g0 β0 σ0 w0 out) fuel listed A w:=by
 intro fuel
 induction fuel with
 |zero =>
  intro rest win nO eff b0 lG lo σ Gr listed A w g β F pb hle hi hsi;have hall:∀i,i<ops.size->done listed i:=λi hlt=>by
   by_cases hd:done listed i
   .exact hd
   .have:i∈qZ ops listed:=fZ.2 ⟨dh.2 hlt,by simpa using hd⟩;have:=List.length_pos_of_mem this;omega
  refine⟨?_,mid_end hs' hi hall⟩;refine List.eq_nil_iff_forall_not_mem.2 λj hj=>?_;have hcl:Closed ops ms listed:=λj hj hd i hb=>hi.inv.core.closed j hj hd i (EL hb);obtain⟨h1,h2,_⟩:=kS hs (λh=>h.elim) hi.inv.core.size hcl hj;exact h2 (hall j h1)
 |succ fuel ihf =>
  intro rest win nO eff b0 lG lo σ Gr listed A w g β F pb hle hi hsi;refine⟨λhnil=>mid_end hs' hi (ready_nil hi.inv.core.size hs.awu hnil),λj hj=>?_⟩;have hcl:Closed ops ms listed:=λj hj hd i hb=>hi.inv.core.closed j hj hd i (EL hb);obtain⟨h1,h2,h3⟩:=kS hs (λh=>h.elim) hi.inv.core.size hcl hj;have hlt:(qZ ops (listed.setIfInBounds j true)).length<=fuel:=by have:=Iq h1 h2;omega
  by_cases hsp:j=e2/\¬done listed e1
  .obtain⟨rfl,hn1⟩:=hsp;exact asM hout hm hs' hs hf hi hsi hj hn1 λA' w' g' β' rest' aeb ayr ayD b0' OU lo' σ' hi'=>ae9 (sw:=λ_=>False) (λ_ h=>h) hout hm hs fuel hlt hi'
  .have hcov:∀i,i<ops.size->cls i<2->¬done (listed.setIfInBounds j true) i->i∈win\/i∈uH rest:=λi k1 k2 k3=>hi.cov i k1 k2 λh=>k3 (dM.2 (.inl h));have hw:j=e2->∀i,(Dc ms e1 e2 j).testBit i=true->i<ops.size/\done listed i:=by
    rintro rfl i hb
    have hd1:done listed e1:=by
     by_cases h:done listed e1
     .exact h
     .exact absurd ⟨rfl,h⟩ hsp
    rcases arL hb with h|rfl|h
    .exact h3 i h
    .exact⟨hf.lt1,hd1⟩
    .exact hcl e1 hf.lt1 hd1 i h
   rcases hs.cl3 j with hc|hc|hc
   .exact ad4 hm hs' hi.inv (λh=>by have:=hf.c2;rw[<- h]at this;omega) hj hc λA' w' g' β' F' hi'=>ihf hlt ⟨hi',hcov,hi.cur,hi.ok,hi.run⟩ hsi
   .refine ad3 hout hm hs' hi hw (λo h=>hs.TB j o (λh=>h) h) hj hc λA' w' g' β' F' s rest' aeb b0' OU lo' σ' DV hrs hi'=>ihf hlt hi' ?_;subst hrs;exact hsi.next
   .exact an5 hs' hi.inv (λh=>by have:=hf.c2;rw[<- h]at this;omega) hj hc λA' w' g' β' F' pb' hi'=>ihf hlt ⟨hi',hcov,hi.cur,hi.ok,hi.run⟩ hsi
end
end Go.Vx
