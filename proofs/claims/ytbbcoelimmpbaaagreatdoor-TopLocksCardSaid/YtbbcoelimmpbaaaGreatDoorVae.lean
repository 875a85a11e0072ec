/- A part of the proof of TopLocks. -/
import Derived.OrdersIn
import Derived.Test.YtbbcoelimmpbaaaGreatDoorVad
set_option linter.all false
set_option linter.unusedVariables false
set_option linter.unusedSimpArgs false
set_option maxRecDepth 1000000
noncomputable section
open Go Go.RowKit
namespace Go.Vx
section
variable {P:Program} {Hn:Hints} {comp:FuncId→Code→aH} {g g' g'':G} {σ σ' oJ:H} {w w' w'':World} {β β' β'':Nat→Option Nat} {lo lo':Lo} {fr fr':List V} {A A':Act} {B0:Nat} {ro:Option Nat}
theorem afP {T:Array Value} (h:wL g β fr T):kK g (nT fr) T.toList:=by
 have hl:(nT fr).length=fr.length:=by
  clear h
  induction fr with
  |nil=>rfl
  |cons v vs ih=>simp [nT,ih]
 refine ⟨by rw [hl];simpa using h.size,fun i v x hv hx=>?_⟩
 have hget:∀ (fs:List V) (i:Nat),(nT fs)[i]?=(fs[i]?).map fun v=>match v with|.bf _ _=>.undef|v=>v:=by
  intro fs
  induction fs with
  |nil=>intro i;simp [nT]
  |cons y ys ih =>
   intro i
   cases i with
   |zero=>cases y<;>simp [nT]
   |succ i=>simp [nT,ih]
 rw [hget] at hv
 cases hf:fr[i]? with
 |none=>rw [hf] at hv;cases hv
 |some u =>
  rw [hf] at hv
  have hs:=h.slots i u x hf (by simpa using hx)
  cases u<;>simp at hv<;>subst hv<;>first|exact .undef _|exact hs
theorem Df.lt {r:Nat}:∀ {ds:List Deferred},Df P B0 w ds→∀ d∈ds,d.target=.collected r→r<w.heap.size
 |d::ds,h,d',hd,ht=>by
  rcases List.mem_cons.1 hd with rfl|hd
  ·rcases h.1 with ⟨r',_,h1,h2,_⟩|⟨f,cap,h1,_⟩
   ·rw [h1] at ht;cases ht;exact (fG.1 h2).1
   ·rw [h1] at ht;cases ht
  ·exact Df.lt h.2 d' hd ht
theorem agz {ih:Ih} (hcall:∀ f args σ,nM P Hn f args σ (ih (.call f args) [] [] σ)) {gop:Operand} {anU:aF} {ps:Array Tmp} {assign body:Code} {f0:FuncId} (hg:bQ gop=some anU) (hfl:flat assign=true∧flat body=true)
  (h:Sc P (aQ P Hn) B0 g β σ lo fr A w) (hne:uI ih anU ps.toList (aQ P Hn f0 assign) (aQ P Hn f0 body) fr lo σ≠.fail) :
  (Code.rangeFunc gop ps assign body).wpIn (Fw none) 0 P (jR P (aQ P Hn) B0 g β σ w (uI ih anU ps.toList (aQ P Hn f0 assign) (aQ P Hn f0 body) fr lo σ)) A w:=by
 have hrg:=Rs.ev h.s.f hg
 unfold uI at hne ⊢
 generalize hgv:anU.ev fr=gv at hrg hne ⊢
 cases gv<;>try (exact absurd rfl hne)
 rename_i fnv first caps
 cases fnv<;>try (exact absurd rfl hne)
 rename_i q
 dsimp only at hne ⊢
 have aA7:Rv g (.func (.func q) first caps) (A.eval gop):=hrg
 generalize hX:A.eval gop=X at aA7
 cases aA7 with
 |@func _ fn' _ _ F C hfn h1 h2 h3 h4 =>
 cases hfn
 have hF:kK g first F.toList:=⟨by simpa using h1,fun i v w a b=>h3 i v w a (by simpa using b)⟩
 have hC:kK g caps C.toList:=⟨by simpa using h2,fun i v w a b=>h4 i v w a (by simpa using b)⟩
 cases ho:ih (.call q (first++(.func (.yield σ.next) [] []::caps))) [] [] (σ.new (.loop ⟨0,none,nT fr,ps.toList,aQ P Hn f0 assign,aQ P Hn f0 body⟩)) with
 |fail=>rw [ho] at hne;exact absurd rfl hne
 |norm _ _ _=>rw [ho] at hne;exact absurd rfl hne
 |jump _ _ _ _=>rw [ho] at hne;exact absurd rfl hne
 |val v3 σ3 =>
 rw [ho] at hne
 refine wpIn_rangeFunc fun fn _=>?_
 let L:Loop:={ state:=.ready,pending:=none,fn,tmps:=A.tmps,params:=ps,assign,body,defers:=w.heap.size }
 let w0:=w.alloc (.deferred (some []))
 let w1:=w0.alloc (.loop L)
 have hz0:w0.heap.size=w.heap.size+1:=by simp [w0]
 have hz1:w1.heap.size=w.heap.size+2:=by simp [w1,hz0]
 have hold:∀ k,k<w.heap.size→w1.heap[k]?=w.heap[k]?:=fun k hk=>(Below.heap_alloc w0 _ k (by omega)).trans (Below.heap_alloc w _ k hk)
 have aAP:w1.heap[w.heap.size]?=some (.deferred (some [])):=(Below.heap_alloc w0 _ _ (by omega)).trans (Go.World.alloc_heap_new w _)
 have ayg:w1.heap[w.heap.size+1]?=some (.loop L):=by have:=Go.World.alloc_heap_new w0 (.loop L);rw [hz0] at this;exact this
 have aI5:Rw P (aQ P Hn) g σ w1:=(h.s.w.alloc _).alloc _
 have hnl:¬Live g σ (w.heap.size+1):=fun hl=>absurd (hl.lt h.s.w) (by omega)
 have hph:∀ o,g.φ (w.heap.size+1) o=none:=fun o=>h.s.w.nC (by omega) o
 have hle1:=G.uo (g:=g) (w.heap.size+1,0) (h.s.w.fresh _ (bC _)).1
 have hw1:Rw P (aQ P Hn) (g.bind σ.next (w.heap.size+1,0)) (σ.new (.loop ⟨0,none,nT fr,ps.toList,aQ P Hn f0 assign,aQ P Hn f0 body⟩)) w1 :=
  aI5.add hnl hph ⟨L,ayg,rfl,rfl,(afP h.s.f).mono hle1,rfl,f0,rfl,rfl,hfl.1,hfl.2⟩
 have OT:∀ k,Live (g.bind σ.next (w.heap.size+1,0)) (σ.new (.loop ⟨0,none,nT fr,ps.toList,aQ P Hn f0 assign,aQ P Hn f0 body⟩)) k→k≠w.heap.size+1→Live g σ k:=by
  rintro k ⟨i,m,hi,hk⟩ hne'
  by_cases e:i=σ.next
  ·subst e;simp at hk;exact absurd hk.1.symm hne'
  ·rw [G.kL _ e] at hk
   rw [H.qw] at hi
   simp [Ne.symm e] at hi
   exact ⟨i,m,hi,hk⟩
 have hargs:kK (g.bind σ.next (w.heap.size+1,0)) (first++(.func (.yield σ.next) [] []::caps)) ((F++#[Value.func (.yield (w.heap.size+1)) #[] #[]])++C).toList:=by
  have hy:Rv (g.bind σ.next (w.heap.size+1,0)) (.func (.yield σ.next) [] []) (.func (.yield (w.heap.size+1)) #[] #[]):=.func (.yield (G.oq _ _ _)) rfl rfl (fun i v w a _=>by simp at a) (fun i v w a _=>by simp at a)
  simpa using (hF.mono hle1).append (.cons hy (hC.mono hle1))
 have hco:=hcall q _ _ _ _ w1 v3 σ3 hargs hw1 ho
 have aIy:((callFunc q ((F++#[Value.func (.yield (w.heap.size+1)) #[] #[]])++C)).run P w1=.ok (.enter q ((F++#[Value.func (.yield (w.heap.size+1)) #[] #[]])++C)) w1) ∧
   CallsIn (Fw none) 0 P q ((F++#[Value.func (.yield (w.heap.size+1)) #[] #[]])++C) w1 fun|.returned x,w'=>uS P Hn (g.bind σ.next (w.heap.size+1,0)) (σ.new (.loop ⟨0,none,nT fr,ps.toList,aQ P Hn f0 assign,aQ P Hn f0 body⟩)) w1 v3 σ3 x w'|_,_=>False:=by
  rcases hco with hco|⟨⟨b,k,c,hb,hnf⟩,_⟩
  ·exact hco
  ·exfalso
   cases first with
   |nil=>simp at hb;exact hnf _ _ _ hb.1.symm
   |cons y ys =>
    cases ys with
    |nil=>simp at hb
    |cons z zs=>simp at hb
 obtain ⟨hrun,ayd⟩:=aIy
 unfold Dp at hne ⊢
 dsimp only at hne ⊢
 cases hgl:getLoop σ3 σ.next with
 |none=>rw [hgl] at hne;exact absurd rfl hne
 |some lp3 =>
 rw [hgl] at hne
 dsimp only at hne ⊢
 generalize hq1:Nat.beq lp3.st 1=q1 at hne ⊢
 cases q1 with
 |true=>exact absurd rfl hne
 |false =>
 simp only [cond_false] at hne ⊢
 refine ⟨w.heap.size+1,[{ target:=.collected w.heap.size,args:=#[] }],w1,{ target:=.fn (.func q) C,args:=F++#[Value.func (.yield (w.heap.size+1)) #[] #[]] },w1,q,(F++#[Value.func (.yield (w.heap.size+1)) #[] #[]])++C,w1,?_,?_,fun _ _=>trivial,?_,fun hh=>by simp [Fw] at hh,?_⟩
 ·exact run_enterLoop_outer fn A.tmps ps assign body
 ·simp only [resolve,rangeCall,hX]
  simp [Deferred.ofValue,Act.eval]
 ·simpa [invoke] using hrun
 ·refine CallsIn.mono ayd fun e w3 he=>?_
  cases e with
  |panicked ch=>exact he.elim
  |outgrown=>exact he.elim
  |returned x =>
  obtain ⟨g3,hv3,hw3,hs3⟩:=he
  obtain ⟨b3,n3,L3,m1,m2,m3,m4,m5,m6,m7,m8,m9⟩:=hw3.Io hgl
  have hr3:=hs3.le.ρ σ.next _ (G.oq g σ.next (w.heap.size+1,0))
  obtain ⟨rfl,rfl⟩:=Prod.mk.inj (gy (m1.symm.trans hr3))
  have hnb:L3.state≠.busy:=by
   intro aAL
   rw [aAL] at m3
   split at m3<;>first|(cases m3;done)|(rename_i hst;rw [hst] at hq1;cases hq1;done)
  refine ⟨_,_,run_endLoop m2 hnb,?_⟩
  let w4:=w3.putObj (w.heap.size+1) (.loop { L3 with state:=.exhausted })
  have hoth:∀ k,k≠w.heap.size+1→w4.heap[k]?=w3.heap[k]?:=fun k hk=>World.putObj_heap_other hk
  have hsome:(σ3.get σ.next).isSome=true:=by simp [mM hgl]
  have hnd:=yQ hw3 hsome m1
  have hw4:Rw P (aQ P Hn) g3 (σ3.del σ.next) w4:=(hw3.del σ.next).other hnd m8 (by simp [w4]) hoth
  have hlv:∀ k,Live g3 (σ3.del σ.next) k→k<w.heap.size→Live g σ k:=fun k hk hlt=>OT k (hs3.live k hk.yS (by omega)) (by omega)
  have hk3:∀ k,k<w.heap.size→¬Live g σ k→((∀ o,g.φ k o=none)∨g.pin k)→w4.heap[k]?=w.heap[k]?:=fun k hk hl hp=>by
   rw [hoth k (by omega),hs3.nI.block k (by omega) (fun hx=>hl (OT k hx (by omega))) (by simp [Cj]) hp,hold k hk]
  have OU:∀ k,k<w.heap.size→(∀ o,g.φ k o=none)→¬Live g σ k→∀ o,g3.φ k o=none:=fun k hk hp hl o =>
   hs3.phi k (by omega) (by simpa using hp) (fun hx=>hl (OT k hx (by omega))) o
  have hle3:=hle1.trans hs3.le
  have hsize:w.heap.size≤w4.heap.size:=by have:=hs3.nI.size;simp [w4];omega
  have hstp:Stp g β σ w g3 β (σ3.del σ.next) w4 :=
   ⟨hle3,⟨hs3.nI.os,hs3.nI.tape,hs3.nI.output,hsize,fun k hk hl _ hp=>hk3 k hk hl hp⟩,hlv,fun t b hb _=>⟨t,hb⟩,OU⟩
  have hSt:St P (aQ P Hn) g3 β (σ3.del σ.next) lo fr { A with defers:=[{ target:=.collected w.heap.size,args:=#[] }]++A.defers } w4:=by
   refine ⟨h.s.f.mono hle3,h.s.b.same hle3 hlv OU (fun t b hb=>?_),hw4⟩
   obtain ⟨cs,c,ty,_,h5,_⟩:=h.s.b.boxes t b hb
   exact hk3 b (fG.1 h5).1 (h.s.b.apart t b hb).1 (.inl (h.s.b.apart t b hb).2)
  have hmark:w4.heap[w.heap.size]?=some (.deferred (some [])):=by
   rw [hoth _ (by omega),hs3.nI.block _ (by omega) (fun hx=>?_) (by simp [Cj]) (.inl fun o=>by simpa using h.s.w.nC (bC _) o),aAP]
   exact absurd ((OT _ hx (by omega)).lt h.s.w) (by omega)
  have hDf:Df P B0 w4 ([{ target:=.collected w.heap.size,args:=#[] }]++A.defers):=by
   refine ⟨.inl ⟨w.heap.size,h.le,rfl,hmark,fun d' hd' ht=>?_⟩,h.step hstp rfl⟩
   exact absurd (h.d.lt d' hd' ht) (by omega)
  have hSc:Sc P (aQ P Hn) B0 g3 β (σ3.del σ.next) lo fr { A with defers:=[{ target:=.collected w.heap.size,args:=#[] }]++A.defers } w4:=⟨hSt,hDf,Nat.le_trans h.le hsize⟩
  have hgoal:∀ pj:Option Code,pj=lp3.pending.map Ej→(match pj with
    |none=>jR P (aQ P Hn) B0 g β σ w (match lp3.pending with|none=>.norm fr lo (σ3.del σ.next)|some j=>.jump j fr lo (σ3.del σ.next)) .normal { A with defers:=[{ target:=.collected w.heap.size,args:=#[] }]++A.defers } w4
    |some c=>c.wpIn (Fw none) 0 P (jR P (aQ P Hn) B0 g β σ w (match lp3.pending with|none=>.norm fr lo (σ3.del σ.next)|some j=>.jump j fr lo (σ3.del σ.next))) { A with defers:=[{ target:=.collected w.heap.size,args:=#[] }]++A.defers } w4):=by
   intro pj hpj
   clear m4
   cases hpe:lp3.pending with
   |none =>
    rw [hpe] at hpj
    subst hpj
    exact (BK hSc).after hstp
   |some j =>
    rw [hpe] at hpj
    subst hpj
    have hpost:=(BJ (P:=P) (comp:=aQ P Hn) hSc j).after hstp
    cases j with
    |ret=>exact wpIn_ret hpost
    |exit i=>exact wpIn_exit hpost
    |goto i=>exact wpIn_goto hpost
  exact hgoal L3.pending m4
end
section
variable {P:Program} {Hn:Hints} {comp:FuncId→Code→aH} {g g' g'':G} {σ σ' oJ:H} {w w' w'':World} {β β' β'':Nat→Option Nat} {lo lo':Lo} {fr fr':List V} {A A':Act} {B0:Nat} {ro:Option Nat}
def Oc (P:Program) (Hn:Hints) (l:List Ins) (fr:List V) (lo:Lo) (σ:H) (out:Out):Prop :=
 ∀ (f id:Nat) (ops:Array Oper) (ro:Option Nat) (B0:Nat) (g:G) (β:Nat→Option Nat) (A:Act) (w:World),aQ P Hn f (.region id ops true)=.draw l→(ro.isSome=true→yP ops=true) →
  Sc P (aQ P Hn) B0 g β σ lo fr A w→out≠.fail→(Code.region id ops true).wpIn (Fw ro) 0 P (jR P (aQ P Hn) B0 g β σ w out) A w
structure La (P:Program) (Hn:Hints) (ih:Ih):Prop where
 code:∀ vc fr lo σ,IC P (aQ P Hn) vc fr lo σ (ih (.code vc) fr lo σ)
 ops:∀ l fr lo σ,adC P Hn l fr lo σ (ih (.ops l) fr lo σ)
 draws:∀ l fr lo σ,Oc P Hn l fr lo σ (ih (.draws l) fr lo σ)
 call:∀ f args σ,nM P Hn f args σ (ih (.call f args) [] [] σ)
 app:∀ fv args σ,L6 P Hn fv args σ (ih (.app fv args) [] [] σ)
 scope:∀ vc vr fr lo σ,Y4 P Hn vc vr fr lo σ (ih (.scope vc vr) fr lo σ)
 loc:∀ t k args σ,ih (.app (.bf t k) args) [] [] σ=.fail
 bad:∀ fr lo σ,ih (.ops [.op none .bad]) fr lo σ=.fail
theorem arG {out:Out}:∀ (a:Act) (v:World),¬jR P comp B0 g β σ w out .outgrown a v:=by
 rintro a v ⟨fr',lo',σ',h,_⟩
 rcases h with ⟨_,h⟩|⟨j,_,h⟩
 ·cases h
 ·cases j<;>cases h
theorem YA {ih:Ih} (h0:La P Hn ih) (vc vr:aH) (fr:List V) (lo:Lo) (σ:H):Y4 P Hn vc vr fr lo σ (pO ih vc (ih (.code vr) fr lo σ)):=by
 intro f c r ro B0 g β A w hc hr hfc hfr hsc hne
 subst hc hr
 have hne':ih (.code (aQ P Hn f r)) fr lo σ≠.fail:=by intro e;rw [e] at hne;exact hne rfl
 refine Qr (wpIn_mono (h0.code _ _ _ _ f r ro B0 g β A w rfl hfr hsc hne') fun e a v hp=>?_)
 obtain ⟨wX,lo1,σ1,h1,g1,β1,hs1,hst1⟩:=hp
 rcases h1 with ⟨ho,rfl⟩|⟨j,ho,rfl⟩
 ·rw [ho] at hne ⊢
  exact ⟨wX,lo1,σ1,.inl ⟨rfl,rfl⟩,g1,β1,hs1,hst1⟩
 ·rw [ho] at hne ⊢
  cases j with
  |ret=>exact ⟨wX,lo1,σ1,.inr ⟨.ret,rfl,rfl⟩,g1,β1,hs1,hst1⟩
  |exit i=>exact ⟨wX,lo1,σ1,.inr ⟨.exit i,rfl,rfl⟩,g1,β1,hs1,hst1⟩
  |goto l =>
   simp only [pO,Jl] at hne ⊢
   simp only [Jump.ex,O5]
   cases hl:Go.findLabel c l with
   |none =>
    rw [hl] at hne
    simp only [Option.map_none]
    exact ⟨wX,lo1,σ1,.inr ⟨.goto l,rfl,rfl⟩,g1,β1,hs1,hst1⟩
   |some r' =>
    rw [hl] at hne
    simp only [bP] at hne ⊢
    have:=h0.scope (aQ P Hn f c) (aQ P Hn f r') wX lo1 σ1 f c r' ro B0 g1 β1 a v rfl rfl hfc (fun h=>WI (hfc h) hl) hs1 hne
    intro b k cs h1 h2 h3
    obtain ⟨e,a',w',hq,harr⟩:=this b k cs h1 h2 h3
    exact ⟨e,a',w',hq.after hst1,harr⟩
theorem Ea {a b:Code} {x:Bool} (h:x=(flat a&&flat b)) (hx:x=true):flat a=true∧flat b=true:=by
 rw [h] at hx;simpa using hx
theorem aaN {ih:Ih} (h0:La P Hn ih) (vc:aH) (fr:List V) (lo:Lo) (σ:H):IC P (aQ P Hn) vc fr lo σ (dA ih vc fr lo σ):=by
 intro f c ro B0 g β A w hc hfl hsc hne
 subst hc
 cases c with
 |skip=>exact wpIn_skip (BK hsc)
 |label l=>exact wpIn_label (BK hsc)
 |exit i=>exact wpIn_exit (BJ hsc (.exit i))
 |goto l=>exact wpIn_goto (BJ hsc (.goto l))
 |ret=>exact wpIn_ret (BJ hsc .ret)
 |refuse r=>exact absurd (h0.bad fr lo σ) hne
 |region id ops d =>
  cases d with
  |true =>
   have:=h0.draws (IY P Hn f ops) fr lo σ f id ops ro B0 g β A w (by simp [aQ]) hfl hsc
   simp only [aQ] at hne ⊢
   exact this hne
  |false =>
   have:=h0.ops (ops.toList.map (gK P Hn f ops)) fr lo σ f ops 0 ro B0 g β A w (by simp) hfl hsc
   simp only [aQ,dA] at hne ⊢
   have h2:=this hne
   refine wpIn_region ?_
   rw [List.range_eq_range']
   simpa using h2
 |seq x y =>
  simp only [aQ,dA] at hne ⊢
  have hx:ih (.code (aQ P Hn f x)) fr lo σ≠.fail:=by intro e;rw [e] at hne;exact hne rfl
  refine seq_ok (h0.code _ fr lo σ f x ro B0 g β A w rfl (fun h=>(Ea rfl (hfl h)).1) hsc hx) (fun wX lo1 σ1 g1 β1 A1 w1 ho hs1=>?_) (fun j wX lo1 σ1 ho=>by rw [ho];rfl)
  rw [ho] at hne ⊢
  exact h0.code _ wX lo1 σ1 f y ro B0 g1 β1 A1 w1 rfl (fun h=>(Ea rfl (hfl h)).2) hs1 hne
 |cond q x y =>
  simp only [aQ,dA] at hne ⊢
  cases hq:bQ q with
  |none=>rw [hq] at hne;exact absurd rfl hne
  |some q' =>
   rw [hq] at hne
   simp only [Option.getD_some] at hne ⊢
   generalize hv:q'.ev fr=v at hne ⊢
   cases v<;>try (exact absurd rfl hne)
   rename_i t
   refine Ot hsc.s hq hv ?_
   cases t
   ·exact h0.code _ fr lo σ f y ro B0 g β A w rfl (fun h=>(Ea rfl (hfl h)).2) hsc hne
   ·exact h0.code _ fr lo σ f x ro B0 g β A w rfl (fun h=>(Ea rfl (hfl h)).1) hsc hne
 |block id x =>
  simp only [aQ,dA] at hne ⊢
  have hx:ih (.code (aQ P Hn f x)) fr lo σ≠.fail:=by intro e;rw [e] at hne;exact hne rfl
  exact adU (h0.code _ fr lo σ f x ro B0 g β A w rfl hfl hsc hx)
 |loop x =>
  simp only [aQ,dA] at hne ⊢
  have hx:ih (.code (aQ P Hn f x)) fr lo σ≠.fail:=by intro e;rw [e] at hne;exact hne rfl
  refine rM arG (wpIn_mono (h0.code _ fr lo σ f x ro B0 g β A w rfl hfl hsc hx) fun e a v hp=>?_)
  obtain ⟨wX,lo1,σ1,h1,g1,β1,hs1,hst1⟩:=hp
  rcases h1 with ⟨ho,rfl⟩|⟨j,ho,rfl⟩
  ·rw [ho] at hne ⊢
   have:=h0.code (.loop (aQ P Hn f x)) wX lo1 σ1 f (.loop x) ro B0 g1 β1 a v rfl hfl hs1 hne
   exact wpIn_mono this fun e a' v' hq=>hq.after hst1
  ·rw [ho]
   have:jR P (aQ P Hn) B0 g β σ w (.jump j wX lo1 σ1) j.ex a v:=⟨wX,lo1,σ1,.inr ⟨j,rfl,rfl⟩,g1,β1,hs1,hst1⟩
   cases j<;>exact this
 |scope x =>
  simp only [aQ,dA] at hne ⊢
  exact YW (h0.scope _ _ fr lo σ f x x ro B0 g β A w rfl rfl hfl hfl hsc hne)
 |rangeFunc q ps a b =>
  have hrn:ro=none:=by
   cases ro with
   |none=>rfl
   |some l=>have:=hfl rfl;simp [flat] at this
  subst hrn
  simp only [aQ] at hne ⊢
  split at hne
  ·rename_i aAT
   rw [if_pos aAT]
   simp only [dA] at hne ⊢
   cases hq:bQ q with
   |none=>rw [hq] at hne;exact absurd rfl hne
   |some q' =>
    rw [hq] at hne
    simp only [Option.getD_some] at hne ⊢
    exact agz h0.call hq (by simpa using aAT) hsc hne
  ·exact absurd (h0.bad fr lo σ) hne
theorem ahb {ih:Ih} {fns:Nat→Option ak} (RF:∀ f vf,fns f=some vf→Gv P Hn f=some vf) (hext:∀ f vf,fns f=some vf→vf.ext≠0→Gq P Hn f vf) (hidle:∀ q∈Hn.idle,wZ P q)
  (aAR:∀ ih,La P Hn ih→∀ l fr lo σ,Oc P Hn l fr lo σ (step fns ih (.draws l) fr lo σ)) (h0:La P Hn ih):La P Hn (step fns ih) where
 code:=aaN h0
 ops:=agf h0.ops h0.call h0.app hidle h0.loc
 draws:=aAR ih h0
 call:=amV RF hext h0.code
 app:=adM h0.call h0.code
 scope:=YA h0
 loc _ _ _ _:=rfl
 bad _ _ _:=rfl
end
mutual
theorem FC:∀ {a b:V},mY a b=true→a=b
 |.undef,b,h=>by cases b<;>simp [mY] at h<;>rfl
 |.bool x,b,h=>by cases b<;>simp [mY] at h;rename_i y;cases x<;>cases y<;>simp_all
 |.int k x,b,h=>by
  cases b<;>simp [mY] at h
  rw [kP,qW] at h
  simp at h
  rw [h.1,h.2]
 |.str x,b,h=>by
  cases b<;>simp [mY] at h
  rw [pJ] at h
  rw [beq_iff_eq.1 h]
 |.nilPtr,b,h=>by cases b<;>simp [mY] at h<;>rfl
 |.bf x y,b,h=>by cases b<;>simp [mY] at h;rw [h.1,h.2]
 |.dF x y,b,h=>by cases b<;>simp [mY] at h;rw [h.1,h.2]
 |.gX x,b,h=>by cases b<;>simp [mY] at h;rw [yF h]
 |.aj,b,h=>by cases b<;>simp [mY] at h<;>rfl
 |.list x e,b,h=>by
  cases b<;>simp [mY] at h
  rename_i y e'
  rw [yF h.2]
  have:e=e':=by cases e<;>cases e'<;>simp_all
  rw [this]
 |.hsl a1 a2 a3 a4 a5,b,h=>by
  cases b<;>simp [mY] at h
  rename_i b1 b2 b3 b4 b5
  have h4:a4=b4:=by cases a4<;>cases b4<;>simp_all [eqO]
  rw [h.1.1.1.1,h.1.1.1.2,h.1.1.2,h.1.2,h4]
 |.dV,b,h=>by cases b<;>simp [mY] at h<;>rfl
 |.map x,b,h=>by cases b<;>simp [mY] at h;rw [h]
 |.nilFunc,b,h=>by cases b<;>simp [mY] at h<;>rfl
 |.func f x y,b,h=>by
  cases f<;>cases b<;>try (simp [mY] at h;done)
  rename_i f' x' y'
  cases f'<;>simp [mY] at h
  rw [h.1.1,yF h.1.2,yF h.2]
 |.nilIface,b,h=>by cases b<;>simp [mY] at h<;>rfl
 |.iface t v,b,h=>by
  cases b<;>simp [mY] at h
  rw [h.1,FC h.2]
 |.agg x,b,h=>by cases b<;>simp [mY] at h;rw [yF h]
 |.tuple x,b,h=>by cases b<;>simp [mY] at h;rw [yF h]
theorem yF:∀ {a b:List V},xu a b=true→a=b
 |[],b,h=>by cases b<;>simp [xu] at h<;>rfl
 |x::xs,b,h=>by
  cases b<;>simp [xu] at h
  rw [FC h.1,yF h.2]
end
def Same (l:List Nat) (F G:List V):Prop:=∀ t∈l,aO F t=aO G t
theorem Same.symm {l:List Nat} {F G:List V} (h:Same l F G):Same l G F:=fun t ht=>(h t ht).symm
theorem Same.sub {l m:List Nat} {F G:List V} (h:Same l F G) (hs:∀ t∈m,t∈l):Same m F G:=fun t ht=>h t (hs t ht)
theorem Same.left {l m:List Nat} {F G:List V} (h:Same (l++m) F G):Same l F G:=h.sub fun _ ht=>List.mem_append_left _ ht
theorem Same.right {l m:List Nat} {F G:List V} (h:Same (l++m) F G):Same m F G:=h.sub fun _ ht=>List.mem_append_right _ ht
theorem aF.same {x:aF} {F G:List V} (h:Same x.slots F G):x.ev F=x.ev G:=by
 cases x with
 |tmp t=>exact h t (by simp [aF.slots])
 |const v=>rfl
theorem zW:∀ {l:List aF} {F G:List V},Same (pX l) F G→aF.evs l F=aF.evs l G
 |[],_,_,_=>rfl
 |x::xs,F,G,h=>by simp only [aF.evs];rw [aF.same h.left,zW h.right]
theorem FI:∀ {ps:List (Nat×Nat×aF)} {F G cs:List V},Same (KC ps) F G→fill cs ps F=fill cs ps G
 |[],_,_,_,_=>rfl
 |(off,sz,x)::ps,F,G,cs,h=>by
  have ih:∀ cs,fill cs ps F=fill cs ps G:=fun cs=>FI h.right
  simp only [fill,ih]
  rw [aF.same h.left]
theorem Ji {x:Option aF} {F G:List V} (h:Same (AP x) F G):lF x F=lF x G:=by
 cases x with
 |none=>rfl
 |some x=>simp only [lF];rw [aF.same h]
theorem Bl {o:l7} {d:Nat} {F G:List V} {lo:Lo} {h:H} (hs:Same o.slots F G):aZ d o F lo h=aZ d o G lo h:=by
 cases o with
 |mv x=>have e:=aF.same (x:=x) hs;simp only [aZ,jh,e]
 |yA x=>have e:=aF.same (x:=x) hs;simp only [aZ,wV,e]
 |BR x=>have e:=aF.same (x:=x) hs;simp only [aZ,yU,e]
 |mF x=>have e:=aF.same (x:=x) hs;simp only [aZ,cu,e]
 |ji x=>have e:=aF.same (x:=x) hs;simp only [aZ,cZ,e]
 |not x=>have e:=aF.same (x:=x) hs;simp only [aZ,fU,e]
 |neg x=>have e:=aF.same (x:=x) hs;simp only [aZ,xR,e]
 |vS x=>have e:=aF.same (x:=x) hs;simp only [aZ,oD,e]
 |zK x=>have e:=aF.same (x:=x) hs;simp only [aZ,rF,e]
 |jV x=>have e:=aF.same (x:=x) hs;simp only [aZ,jU,e]
 |toStr x=>have e:=aF.same (x:=x) hs;simp only [aZ,oG,e]
 |cap x=>have e:=aF.same (x:=x) hs;simp only [aZ,xQ,e]
 |nR n x=>have e:=aF.same (x:=x) hs;simp only [aZ,cO,e]
 |iF k x=>have e:=aF.same (x:=x) hs;simp only [aZ,aS,e]
 |gY t x=>have e:=aF.same (x:=x) hs;simp only [aZ,kJ,e]
 |fieldAddr n x=>have e:=aF.same (x:=x) hs;simp only [aZ,aK,e]
 |field a b c x=>have e:=aF.same (x:=x) hs;simp only [aZ,bU,e]
 |extract i x=>have e:=aF.same (x:=x) hs;simp only [aZ,aX,e]
 |len c x=>have e:=aF.same (x:=x) hs;simp only [aZ,eP,e]
 |clear z x=>have e:=aF.same (x:=x) hs;simp only [aZ,qE,e]
 |nS x y=>have e:=aF.same (x:=x) hs.left;have e2:=aF.same (x:=y) hs.right;simp only [aZ,pI,e,e2]
 |store n x y=>have e:=aF.same (x:=x) hs.left;have e2:=aF.same (x:=y) hs.right;simp only [aZ,jT,e,e2]
 |eq a b x y=>have e:=aF.same (x:=x) hs.left;have e2:=aF.same (x:=y) hs.right;simp only [aZ,iE,e,e2]
 |bin b x y=>have e:=aF.same (x:=x) hs.left;have e2:=aF.same (x:=y) hs.right;simp only [aZ,eY,e,e2]
 |aV n x y=>have e:=aF.same (x:=x) hs.left;have e2:=aF.same (x:=y) hs.right;simp only [aZ,aP,e,e2]
 |qZ a b x y=>have e:=aF.same (x:=x) hs.left;have e2:=aF.same (x:=y) hs.right;simp only [aZ,sJ,e,e2]
 |index x y=>have e:=aF.same (x:=x) hs.left;have e2:=aF.same (x:=y) hs.right;simp only [aZ,mV,e,e2]
 |oM a b c x y=>have e:=aF.same (x:=x) hs.left;have e2:=aF.same (x:=y) hs.right;simp only [aZ,kR,e,e2]
 |lookup a b c x y=>have e:=aF.same (x:=x) hs.left;have e2:=aF.same (x:=y) hs.right;simp only [aZ,kS,e,e2]
 |wU z x y=>have e:=aF.same (x:=x) hs.left;have e2:=aF.same (x:=y) hs.right;simp only [aZ,Ar,e,e2]
 |max x y=>have e:=aF.same (x:=x) hs.left;have e2:=aF.same (x:=y) hs.right;simp only [aZ,vO,e,e2]
 |min x y=>have e:=aF.same (x:=x) hs.left;have e2:=aF.same (x:=y) hs.right;simp only [aZ,vP,e,e2]
 |append n x y=>have e:=aF.same (x:=x) hs.left;have e2:=aF.same (x:=y) hs.right;simp only [aZ,aU,e,e2]
 |lI z x y=>have e:=aF.same (x:=x) hs.left;have e2:=aF.same (x:=y) hs.right;simp only [aZ,kH,e,e2]
 |copy n x y=>have e:=aF.same (x:=x) hs.left;have e2:=aF.same (x:=y) hs.right;simp only [aZ,qF,e,e2]
 |mG n x y=>have e:=aF.same (x:=x) hs.left;have e2:=aF.same (x:=y) hs.right;simp only [aZ,kG,aU,e,e2]
 |kQ z x y=>have e:=aF.same (x:=x) hs.left;have e2:=aF.same (x:=y) hs.right;simp only [aZ,jG,gW,e,e2]
 |mkSlice z x y=>have e:=aF.same (x:=x) hs.left;have e2:=aF.same (x:=y) hs.right;simp only [aZ,gW,e,e2]
 |pick x y z=>have e:=aF.same (x:=x) hs.left;have e2:=aF.same (x:=y) hs.right.left;have e3:=aF.same (x:=z) hs.right.right;simp only [aZ,qG,e,e2,e3]
 |bV k x y z=>have e:=aF.same (x:=x) hs.left;have e2:=aF.same (x:=y) hs.right.left;have e3:=aF.same (x:=z) hs.right.right;simp only [aZ,ni,e,e2,e3]
 |oU x y z=>have e:=aF.same (x:=x) hs.left;have e2:=aF.same (x:=y) hs.right.left;have e3:=aF.same (x:=z) hs.right.right;simp only [aZ,vN,e,e2,e3]
 |alloc z=>rfl
 |bM z=>rfl
 |mkMap=>rfl
 |recover=>rfl
 |bad=>rfl
 |build z ps=>simp only [aZ,dB,FI (ps:=ps) hs]
 |lit z a b ps=>simp only [aZ,fO,FI (ps:=ps) hs]
 |bJ fn a b=>simp only [aZ,bD,zW (l:=a) hs.left,zW (l:=b) hs.right]
 |slice st sz x a b c=>simp only [aZ,dh,aF.same (x:=x) hs.left,Ji (x:=a) hs.right.left,Ji (x:=b) hs.right.right.left,Ji (x:=c) hs.right.right.right]
theorem Pz {o:Option V} {lo lo':Lo} {h h':H} {v:V} (e:OR.iG o lo h=.ok v lo' h'):lo'=lo∧h'=h:=by
 cases o<;>simp [OR.iG] at e
 exact ⟨e.2.1.symm,e.2.2.symm⟩
theorem Wu {o:l7} {d:Nat} {F:List V} {lo lo':Lo} {h h':H} {v:V} (hc:o.cls<2) (e:aZ d o F lo h=.ok v lo' h'):lo'=lo∧h'=h:=by
 cases o<;>try (simp [l7.cls] at hc;done)
 all_goals simp only [aZ,jh,qG,dB,fO,cu,cO,cZ,iE,eY,fU,xR,aS,oD,rF,jU,oG,kJ,bD,dh,aK,bU,aP,sJ,mV,kR,kS,aX,eP,xQ,vO,vP] at e
 all_goals try (exact Pz e)
 all_goals repeat' split at e
 all_goals first
  |(cases e;done)
  |exact Pz e
  |(simp only [OR.ok.injEq] at e;exact ⟨e.2.1.symm,e.2.2.symm⟩)
  |(simp only [cond_eq_ite] at e;split at e<;>first|(cases e;done)|exact Pz e|(simp only [OR.ok.injEq] at e;exact ⟨e.2.1.symm,e.2.2.symm⟩))
  |skip
theorem xO {o:Option V} {lo lo':Lo} {h h':H} {v:V} (lo2:Lo) (h2:H) (e:OR.iG o lo h=.ok v lo' h'):OR.iG o lo2 h2=.ok v lo2 h2:=by
 cases o<;>simp [OR.iG] at e ⊢
 exact e.1
theorem aa0 {o:l7} {d:Nat} {F:List V} {lo lo':Lo} {h h':H} {v:V} (hc:o.cls=0) (lo2:Lo) (h2:H) (e:aZ d o F lo h=.ok v lo' h'):aZ d o F lo2 h2=.ok v lo2 h2:=by
 have heq:∀ c x y,l7.cls (.eq true c x y)=0→∀ a b,lH h c a b=lH h2 c a b:=by
  intro c x y hcc a b
  match c,hcc with
  |0,_=>rfl
  |1,_=>rfl
  |3,_=>rfl
  |4,_=>rfl
  |5,_=>rfl
  |6,_=>rfl
  |n+7,_=>rfl
 cases o<;>try (simp [l7.cls] at hc;done)
 case eq n c x y =>
  simp only [aZ,iE,heq c x y hc] at e ⊢
  exact xO _ _ e
 case len c x =>
  have hl:∀ a,lenOf h c a=lenOf h2 c a:=by
   intro a
   match c,hc with
   |0,_=>rfl
   |1,_=>rfl
   |n+3,_=>rfl
  simp only [aZ,eP,hl] at e ⊢
  split at e
  ·simp only [OR.ok.injEq] at e ⊢;exact ⟨e.1,trivial,trivial⟩
  ·cases e
 all_goals simp only [aZ,jh,qG,dB,fO,cu,cO,cZ,iE,eY,fU,xR,aS,oD,rF,jU,oG,kJ,bD,dh,aK,bU,aP,sJ,mV,kR,kS,aX,eP,xQ,vO,vP] at e ⊢
 all_goals try (exact xO _ _ e)
 all_goals repeat' split at e
 all_goals first
  |(cases e;done)
  |exact xO _ _ e
  |(simp_all;done)
  |(simp only [*];exact xO _ _ e)
  |(simp only [*,cond_eq_ite] at e ⊢;split at e
    ·first|(cases e;done)|(rename_i hq;rw [if_pos hq];first|exact xO _ _ e|(simp only [OR.ok.injEq] at e ⊢;exact ⟨e.1,trivial,trivial⟩))
    ·first|(cases e;done)|(rename_i hq;rw [if_neg hq];first|exact xO _ _ e|(simp only [OR.ok.injEq] at e ⊢;exact ⟨e.1,trivial,trivial⟩)))
  |skip
section
variable {P:Program} {Hn H2:Hints} {comp:FuncId→Code→aH} {g g' g'':G} {σ σ' oJ:H} {w w' w'':World} {β β' β'':Nat→Option Nat} {lo lo':Lo} {fr fr' F G F' G':List V} {A A':Act} {B0:Nat} {ro:Option Nat}
theorem rU (ih:Ih) (l:List Ins) (fr:List V) (lo:Lo) (σ:H):yL ih (.ops l) fr lo σ=.norm fr lo σ:=rfl
def nval (i:Ins) (F:List V) (lo:Lo) (σ:H):Option V:=match i with
 |.op (some d) o=>(match aZ d o F lo σ with|.ok v _ _=>some v|.fail=>none)
 |.grd t b (some _) (.op (some d') o)=>(match aO F t with
  |.bool c=>bif (bif b then c else !c) then (match aZ d' o F lo σ with|.ok v _ _=>some v|.fail=>none) else some (.tuple [])
  |.tuple vs=>(match vs with|[]=>some (.tuple [])|_::_=>none)
  |_=>none)
 |_=>none
def LD (d:Nat) (q:Nat):Ins→Prop
 |.op (some d1) o=>d1=d∧o.cls≤q∧q<2
 |.grd _ _ (some d1) (.op (some d2) o)=>d1=d∧d2=d∧o.cls≤q∧q<2
 |_=>False
theorem TJ {o:l7} (h:o.cls<2):bF o=false:=by cases o<;>first|rfl|(simp [l7.cls] at h)
theorem TL {i:Ins} {d q:Nat} (h:LD d q i) (ih:Ih) (F:List V) (lo:Lo) (σ:H):jQ (yL ih) [] i F lo σ=(match nval i F lo σ with|some v=>.norm (jW F d v) lo σ|none=>.fail):=by
 have base:∀ (o:l7),o.cls<2→qK (yL ih) [] (.op (some d) o) F lo σ=(match (match aZ d o F lo σ with|.ok v _ _=>some v|.fail=>none:Option V) with|some v=>.norm (jW F d v) lo σ|none=>.fail):=by
  intro o ho
  simp only [qK,TJ ho,cond_false]
  cases he:aZ d o F lo σ with
  |fail=>rfl
  |ok v lo' h' =>
   obtain ⟨rfl,rfl⟩:=Wu ho he
   rfl
 cases i with
 |op d1 o =>
  cases d1 with
  |none=>exact h.elim
  |some d1 =>
   obtain ⟨rfl,h1,h2⟩:=h
   exact base o (by omega)
 |grd t b d1 j =>
  cases d1 with
  |none=>exact h.elim
  |some d1 =>
   cases j with
   |op d2 o =>
    cases d2 with
    |none=>exact h.elim
    |some d2 =>
     obtain ⟨rfl,rfl,h1,h2⟩:=h
     simp only [jQ,qP,nval]
     cases hl:aO F t<;>try rfl
     ·rename_i c
      cases hcb:(bif b then c else !c)
      ·simp only [hcb,cond_false];rfl
      ·simp only [hcb,cond_true];exact base o (by omega)
     ·rename_i vs
      cases vs<;>rfl
   |_=>exact h.elim
 |_=>exact h.elim
theorem xK {i:Ins} (h:Same i.slots F G) (lo:Lo) (σ:H):nval i F lo σ=nval i G lo σ:=by
 cases i with
 |op d o =>
  cases d with
  |none=>rfl
  |some d=>simp only [nval,Bl (o:=o) h]
 |grd t b d j =>
  have ht:aO F t=aO G t:=h t (by simp [Ins.slots])
  have hj:Same j.slots F G:=h.sub fun u hu=>by simp [Ins.slots,hu]
  cases d with
  |none=>rfl
  |some d =>
   cases j with
   |op d2 o =>
    cases d2 with
    |none=>rfl
    |some d2=>simp only [nval,ht,Bl (o:=o) hj]
   |_=>rfl
 |_=>rfl
theorem Nc {i:Ins} {d:Nat} (h:LD d 0 i) {v:V} (e:nval i F lo σ=some v) (lo2:Lo) (σ2:H):nval i F lo2 σ2=some v:=by
 have base:∀ (o:l7) (d:Nat) (v:V),o.cls=0→(match aZ d o F lo σ with|.ok v _ _=>some v|.fail=>none)=some v→(match aZ d o F lo2 σ2 with|.ok v _ _=>some v|.fail=>none)=some v:=by
  intro o d v ho he
  cases hq:aZ d o F lo σ with
  |fail=>rw [hq] at he;cases he
  |ok v1 l1 h1 =>
   rw [hq] at he
   rw [aa0 ho lo2 σ2 hq]
   exact he
 cases i with
 |op d1 o =>
  cases d1 with
  |none=>exact h.elim
  |some d1=>exact base o d1 v (by have:=h.2.1;omega) e
 |grd t b d1 j =>
  cases d1 with
  |none=>exact h.elim
  |some d1 =>
   cases j with
   |op d2 o =>
    cases d2 with
    |none=>exact h.elim
    |some d2 =>
     simp only [nval] at e ⊢
     cases hl:aO F t<;>rw [hl] at e<;>try (exact e)
     rename_i c
     dsimp only at e ⊢
     cases hcb:(bif b then c else !c)
     ·simp only [hcb,cond_false] at e ⊢;exact e
     ·simp only [hcb,cond_true] at e ⊢
      exact base o d2 v (by have:=h.2.2.1;omega) e
   |_=>exact h.elim
 |_=>exact h.elim
theorem ad4 {i:Ins} {d q:Nat} (h:LD d q i) {gd:Option (Nat×Bool)} {t:Nat} {o:l7} (hc:Ce i=some (.chk gd t o)) (e:iM gd t o F lo σ=true):nval i F lo σ=some (aO F d):=by
 have base:∀ (d:Nat) (o:l7),fC d o F lo σ=true→(match aZ d o F lo σ with|.ok v _ _=>some v|.fail=>none)=some (aO F d):=by
  intro d o he
  unfold fC at he
  cases hq:aZ d o F lo σ with
  |fail=>rw [hq] at he;cases he
  |ok v l1 h1=>rw [hq] at he;simp only;rw [FC he]
 cases i with
 |op d1 o1 =>
  cases d1 with
  |none=>exact h.elim
  |some d1 =>
   simp only [Ce,aC,Ins.chk.injEq] at hc
   obtain ⟨rfl,rfl,rfl⟩:=hc
   obtain ⟨rfl,_,_⟩:=h
   exact base _ _ e
 |grd t1 b d1 j =>
  cases d1 with
  |none=>exact h.elim
  |some d1 =>
   cases j with
   |op d2 o1 =>
    cases d2 with
    |none=>exact h.elim
    |some d2 =>
     simp only [Ce,aC,Ins.chk.injEq] at hc
     obtain ⟨rfl,rfl,rfl⟩:=hc
     obtain ⟨rfl,rfl,_,_⟩:=h
     simp only [iM] at e
     simp only [nval]
     cases hl:aO F t1<;>rw [hl] at e<;>try (cases e;done)
     ·rename_i c
      dsimp only at e ⊢
      cases hcb:(bif b then c else !c)
      ·simp only [hcb,cond_false] at e ⊢
       rw [←FC e]
      ·simp only [hcb,cond_true] at e ⊢
       exact base _ _ e
     ·rename_i vs
      cases vs with
      |nil=>dsimp only at e ⊢;rw [←FC e]
      |cons _ _=>cases e
   |_=>exact h.elim
 |_=>exact h.elim
theorem QN {i:Ins} {ih:Ih} {lo':Lo} {σ':H} (hl:BI i=true) (hs:Same i.slots F G) (e:jQ (yL ih) [] i G lo σ=.norm G' lo' σ') :
  ∃ v,G'=eF G i.dst v∧jQ (yL ih) [] i F lo σ=.norm (eF F i.dst v) lo' σ':=by
 have base:∀ (j:Ins),(∀ t b d k,j≠.grd t b d k)→(match j with|.op _ o=>bF o=false|_=>True)→Same j.slots F G→qK (yL ih) [] j G lo σ=.norm G' lo' σ'→∃ v,G'=eF G j.dst v∧qK (yL ih) [] j F lo σ=.norm (eF F j.dst v) lo' σ':=by
  intro j hng hna hs e
  cases j with
  |op d o =>
   have ha:bF o=false:=hna
   cases d with
   |none =>
    simp only [qK,ha,cond_false] at e ⊢
    rw [Bl hs]
    cases he:aZ 0 o G lo σ with
    |fail=>rw [he] at e;cases e
    |ok v l1 h1 =>
     rw [he] at e
     simp only [FU,rU,Out.norm.injEq] at e ⊢
     obtain ⟨rfl,rfl,rfl⟩:=e
     exact ⟨v,rfl,rfl,rfl,rfl⟩
   |some d =>
    simp only [qK,ha,cond_false] at e ⊢
    rw [Bl hs]
    cases he:aZ d o G lo σ with
    |fail=>rw [he] at e;cases e
    |ok v l1 h1 =>
     rw [he] at e
     simp only [FU,rU,Out.norm.injEq] at e ⊢
     obtain ⟨rfl,rfl,rfl⟩:=e
     exact ⟨v,rfl,rfl,rfl,rfl⟩
  |call d f l =>
   simp only [qK] at e ⊢
   rw [zW (l:=l) hs]
   cases ha:iD (aF.evs l G)
   ·rw [ha] at e
    simp only [cond_false] at e ⊢
    cases ho:yL ih (.call f (aF.evs l G)) [] [] σ with
    |val v h1 =>
     rw [ho] at e
     simp only [LH,rU,Out.norm.injEq] at e ⊢
     obtain ⟨rfl,rfl,rfl⟩:=e
     exact ⟨v,rfl,rfl,rfl,rfl⟩
    |_=>rw [ho] at e;cases e
   ·rw [ha] at e;cases e
  |dyn d f l =>
   simp only [qK] at e ⊢
   rw [zW (l:=l) hs.right,aF.same hs.left]
   cases ha:iD (aF.evs l G)
   ·rw [ha] at e
    simp only [cond_false] at e ⊢
    cases ho:yL ih (.app (f.ev G) (aF.evs l G)) [] [] σ with
    |val v h1 =>
     rw [ho] at e
     simp only [LH,rU,Out.norm.injEq] at e ⊢
     obtain ⟨rfl,rfl,rfl⟩:=e
     exact ⟨v,rfl,rfl,rfl,rfl⟩
    |_=>rw [ho] at e;cases e
   ·rw [ha] at e;cases e
  |defer ids f l =>
   simp only [qK] at e ⊢
   rw [aF.same hs.left]
   cases hq:Ee ids (f.ev G)
   ·rw [hq] at e;cases e
   ·rw [hq] at e
    simp only [cond_true,rU,Out.norm.injEq] at e ⊢
    obtain ⟨rfl,rfl,rfl⟩:=e
    exact ⟨.undef,rfl,rfl,rfl,rfl⟩
  |grd t b d k=>exact absurd rfl (hng _ _ _ _)
  |chk _ _ _=>cases e
 cases i with
 |grd t b d j =>
  have ht:aO F t=aO G t:=hs t (by simp [Ins.slots])
  have hj:Same j.slots F G:=hs.sub fun u hu=>by simp [Ins.slots,hu]
  simp only [jQ,qP] at e ⊢
  rw [ht]
  simp only [BI,au] at hl
  have hdj:d=j.dst:=by
   have:=hl.1
   generalize j.dst=q at this ⊢
   cases d<;>cases q<;>simp_all [eqO]
  have ayf:∀ q,qK (yL ih) [] j G lo σ=q→q=.norm G' lo' σ'→∃ v,G'=eF G d v∧qK (yL ih) [] j F lo σ=.norm (eF F d v) lo' σ':=by
   intro q hq hqe
   subst hqe
   rw [hdj]
   refine base j (fun t b d k=>?_) ?_ hj hq
   ·intro hk;subst hk;have:=hl.2;simp at this
   ·cases j<;>first|trivial|(have:=hl.2;simpa using this)
  cases hg:aO G t<;>rw [hg] at e<;>try (cases e;done)
  ·rename_i c
   dsimp only at e ⊢
   cases hcb:(bif b then c else !c)
   ·simp only [hcb,cond_false,rU,Out.norm.injEq] at e ⊢
    obtain ⟨rfl,rfl,rfl⟩:=e
    exact ⟨.tuple [],rfl,rfl,rfl,rfl⟩
   ·simp only [hcb,cond_true] at e ⊢
    exact ayf _ rfl e
  ·rename_i vs
   cases vs with
   |nil =>
    simp only [rU,Out.norm.injEq] at e ⊢
    obtain ⟨rfl,rfl,rfl⟩:=e
    exact ⟨.tuple [],rfl,rfl,rfl,rfl⟩
   |cons _ _=>cases e
 |op d o=>exact base (.op d o) (by simp) (by simpa [BI] using hl) hs e
 |call d f l=>exact base (.call d f l) (by simp) trivial hs e
 |dyn d f l=>exact base (.dyn d f l) (by simp) trivial hs e
 |defer ids f l=>exact base (.defer ids f l) (by simp) trivial hs e
 |chk a b c=>cases e
end
section
variable {P:Program} {Hn H2:Hints} {comp:FuncId→Code→aH} {g g' g'':G} {σ σ' oJ:H} {w w' w'':World} {β β' β'':Nat→Option Nat} {lo lo':Lo} {fr fr' F G F' G':List V} {A A':Act} {B0:Nat} {ro:Option Nat}
theorem ng {n:Nat}:∀ {l:List Nat},vK n l=true↔n∈l
 |[]=>by simp [vK]
 |x::xs=>by
  simp only [vK,gu,ng (l:=xs),List.mem_cons]
  constructor
  ·rintro (h|h)
   ·exact .inl (aJ h).symm
   ·exact .inr h
  ·rintro (h|h)
   ·exact .inl (by rw [h];exact Nat.beq_refl x)
   ·exact .inr h
theorem xq:∀ {a b:List Nat},QH a b=true↔∀ x∈a,x∉b
 |[],b=>by simp [QH]
 |x::xs,b=>by
  simp only [QH,au,xq (a:=xs),Bool.not_eq_true',List.mem_cons,forall_eq_or_imp]
  refine and_congr ?_ Iff.rfl
  rw [←ng]
  simp
theorem jy {p:Nat→Bool}:∀ {l:List Nat},xg p l=true↔∀ x∈l,p x=true
 |[]=>by simp [xg]
 |x::xs=>by simp [xg,jy (l:=xs)]
theorem Dw {p:Nat→Bool} {o:Option Nat}:JW p o=true↔∀ x,o=some x→p x=true:=by
 cases o<;>simp [JW]
theorem wQ:∀ {l:List Nat},uJ l=true↔l.Nodup
 |[]=>by simp [uJ]
 |x::xs=>by
  simp only [uJ,au,wQ (l:=xs),Bool.not_eq_true',List.nodup_cons]
  refine and_congr ?_ Iff.rfl
  rw [←ng]
  simp
theorem jl {ins:Nat→Ins} {t:Nat}:∀ {l:List Nat},t∈ou ins l↔∃ i∈l,(ins i).dst=some t
 |[]=>by simp [ou]
 |x::xs=>by
  cases hd:(ins x).dst with
  |none=>simp [ou,hd,jl (l:=xs)]
  |some d =>
   simp only [ou,hd,List.mem_cons,jl (l:=xs)]
   constructor
   ·rintro (h|⟨i,hi,h⟩)
    ·exact ⟨x,.inl rfl,by rw [hd,h]⟩
    ·exact ⟨i,.inr hi,h⟩
   ·rintro ⟨i,hi|hi,h⟩
    ·subst hi;rw [hd] at h;cases h;exact .inl rfl
    ·exact .inr ⟨i,hi,h⟩
theorem D7 {ins:Nat→Ins} {d:Nat}:∀ {l:List Nat},(ou ins l).Nodup→∀ i∈l,∀ j∈l,(ins i).dst=some d→(ins j).dst=some d→l.Nodup→i=j
 |[],_,i,hi,_,_,_,_,_=>by cases hi
 |x::xs,hn,i,hi,j,hj,h1,h2,hl=>by
  have hl':=List.nodup_cons.1 hl
  rcases List.mem_cons.1 hi with rfl|hi<;>rcases List.mem_cons.1 hj with rfl|hj
  ·rfl
  ·simp only [ou,h1,List.nodup_cons] at hn
   exact absurd (jl.2 ⟨j,hj,h2⟩) hn.1
  ·simp only [ou,h2,List.nodup_cons] at hn
   exact absurd (jl.2 ⟨i,‹i∈xs›,h1⟩) hn.1
  ·refine D7 ?_ i hi j hj h1 h2 hl'.2
   cases hd:(ins x).dst with
   |none=>simpa [ou,hd] using hn
   |some d'=>simp only [ou,hd,List.nodup_cons] at hn;exact hn.2
theorem dR (F:List V) (t u:Nat) (v:V):aO (jW F t v) u=if t=u∧u<F.length then v else aO F u:=by
 rw [pG,Ew,pG]
 split<;>simp
theorem sN {d:Option Nat} {u:Nat} {v:V} (h:d≠some u):aO (eF F d v) u=aO F u:=by
 cases d with
 |none=>rfl
 |some t =>
  simp only [eF,dR]
  have:¬t=u:=fun e=>h (by rw [e])
  simp [this]
theorem Ah {d:Option Nat} {u:Nat} {v:V} (hl:F.length=G.length) (h:d=some u):aO (eF F d v) u=aO (eF G d v) u:=by
 subst h
 simp only [eF,dR,hl]
 by_cases hu:u<G.length
 ·simp [hu]
 ·have h1:F[u]?=none:=gI (by omega)
  have h2:G[u]?=none:=gI (by omega)
  simp [hu,pG,h1,h2]
theorem AA (d:Option Nat) (v:V) (F:List V):(eF F d v).length=F.length:=by
 cases d<;>simp [eF,iw]
theorem Jf (hl:F.length=G.length) (h:∀ t,aO F t=aO G t):F=G:=by
 apply List.ext_getElem?
 intro i
 have:=h i
 rw [pG,pG] at this
 by_cases hi:i<F.length
 ·have hi':i<G.length:=by omega
  rw [fM hi,fM hi'] at this ⊢
  simpa using this
 ·rw [gI (by omega),gI (by omega)]
theorem aa9 {es:List Edge} {acc:List Nat} {s0 i:Nat}:∀ (_:(es.foldl (fun s e=>if Region.binds .any e then s ||| 2 ^ e.on ||| acc.getD e.on 0 else s) s0).testBit i=true),
  s0.testBit i=true∨∃ e∈es,Region.binds .any e=true∧(e.on=i∨(acc.getD e.on 0).testBit i=true):=by
 induction es generalizing s0 with
 |nil=>intro h;exact .inl h
 |cons e es ih =>
  intro h
  simp only [List.foldl_cons] at h
  rcases ih h with h|⟨e',he',h1,h2⟩
  ·split at h
   ·rename_i hb
    simp only [Nat.testBit_or,gu] at h
    rcases h with (h|h)|h
    ·exact .inl h
    ·refine .inr ⟨e,by simp,hb,.inl ?_⟩
     rw [Nat.testBit_two_pow] at h
     simpa using h
    ·exact .inr ⟨e,by simp,hb,.inr h⟩
   ·exact .inl h
  ·exact .inr ⟨e',eX _ he',h1,h2⟩
def jC (acc:List Nat) (o:Oper):List Nat:=acc++[o.after.toList.foldl (fun s e=>if Region.binds .any e then s ||| 2 ^ e.on ||| acc.getD e.on 0 else s) 0]
theorem afK (ops:List Oper):masks ops=ops.foldl jC []:=rfl
theorem Rt:∀ (ops:List Oper) (acc:List Nat) (j:Nat),j<acc.length→(ops.foldl jC acc).getD j 0=acc.getD j 0
 |[],acc,j,_=>rfl
 |o::ops,acc,j,h=>by
  simp only [List.foldl_cons]
  rw [Rt ops _ j (by simp [jC];omega)]
  simp only [jC]
  simp [List.getD,List.getElem?_append_left h]
theorem Ru:∀ (ops:List Oper) (acc:List Nat),(ops.foldl jC acc).length=acc.length+ops.length
 |[],acc=>rfl
 |o::ops,acc=>by simp only [List.foldl_cons];rw [Ru];simp [jC];omega
theorem BF {ops:List Oper} {j i:Nat} {o:Oper} (ho:ops[j]?=some o) (h:((masks ops).getD j 0).testBit i=true) :
  ∃ e∈o.after.toList,Region.binds .any e=true∧(e.on=i∨((masks ops).getD e.on 0).testBit i=true):=by
 have hj:j<ops.length:=(iW.1 ho).1
 obtain ⟨pre,post,rfl,hp⟩:∃ pre post,ops=pre++o::post∧pre.length=j:=by
  refine ⟨ops.take j,ops.drop (j+1),?_,by simp;omega⟩
  have:ops.drop j=o::ops.drop (j+1):=by
   rw [List.drop_eq_getElem_cons hj]
   congr 1
   rw [fM hj] at ho
   exact gy ho
  rw [←this,List.take_append_drop]
 have hlen:(pre.foldl jC []).length=j:=by rw [Ru];simp [hp]
 have hm:∀ k,k≤j→(masks (pre++o::post)).getD k 0=(jC (pre.foldl jC []) o).getD k 0:=by
  intro k hk
  rw [afK,List.foldl_append,List.foldl_cons]
  exact Rt post _ k (by simp [jC,hlen];omega)
 have hlow:∀ k,k<j→(masks (pre++o::post)).getD k 0=(pre.foldl jC []).getD k 0:=by
  intro k hk
  rw [hm k (by omega)]
  simp [jC,List.getD,List.getElem?_append_left (show k<(pre.foldl jC []).length by omega)]
 rw [hm j (bC _)] at h
 have hlast:(jC (pre.foldl jC []) o).getD j 0=o.after.toList.foldl (fun s e=>if Region.binds .any e then s ||| 2 ^ e.on ||| (pre.foldl jC []).getD e.on 0 else s) 0:=by
  simp [jC,List.getD,List.getElem?_append_right (show (pre.foldl jC []).length≤j by omega),hlen]
 rw [hlast] at h
 rcases aa9 h with h|⟨e,he,hb,h⟩
 ·simp at h
 ·refine ⟨e,he,hb,?_⟩
  rcases h with h|h
  ·exact .inl h
  ·refine .inr ?_
   by_cases hlt:e.on<j
   ·rw [hlow _ hlt];exact h
   ·rw [List.getD,gI (by omega)] at h
    simp at h
end
section
variable {P:Program} {Hn H2:Hints} {comp:FuncId→Code→aH} {g g' g'':G} {σ σ' oJ:H} {w w' w'':World} {β β' β'':Nat→Option Nat} {lo lo':Lo} {fr fr' F F':List V} {A A':Act} {B0:Nat} {ro:Option Nat}
theorem agd {ih:Ih} (hcall:∀ f args σ,nM P Hn f args σ (ih (.call f args) [] [] σ)) (happ:∀ fv args σ,L6 P Hn fv args σ (ih (.app fv args) [] [] σ)) (hidle:∀ q∈H2.idle,wZ P q) (hloc:∀ t k args σ,ih (.app (.bf t k) args) [] [] σ=.fail)
  {ops:Array Oper} {f i:Nat} {o:Oper} {Q:Exit→Act→World→Prop} {K:Act→World→Prop} (ho:ops[i]?=some o) (hdef:ro.isSome=true→∀ c,o.op≠.defer c) (h:Sc P (aQ P Hn) B0 g β σ lo F A w)
  (hne:jQ ih [] (gK P H2 f ops o) F lo σ≠.fail)
  (hK:∀ g' β' σ' lo' fr' A' w',Sc P (aQ P Hn) B0 g' β' σ' lo' fr' A' w'→Stp g β σ w g' β' σ' w'→(∀ t:Nat,o.dst≠some t→A'.tmps[t]?=A.tmps[t]?)→ih (.ops []) fr' lo' σ'=jQ ih [] (gK P H2 f ops o) F lo σ→K A' w') :
  wpOpIn (Fw ro) 0 P ops Q i K A w:=by
 have hst:∀ i:Ins,(∀ t b d j,i≠.grd t b d j)→jQ ih [] i=qK ih [] i:=by
  intro i hi;cases i<;>first|rfl|exact absurd rfl (hi _ _ _ _)
 have hng:∀ t b d j,(ug P H2 f o).getD (.op none .bad)≠.grd t b d j:=by
  intro t b d j e
  cases hc:ug P H2 f o with
  |none=>rw [hc] at e;cases e
  |some i0 =>
   rw [hc] at e
   simp only [Option.getD_some] at e
   subst e
   unfold ug at hc
   split at hc<;>simp [ay] at hc
 unfold wpOpIn
 rw [ho]
 dsimp only
 cases hg:o.guard with
 |none =>
  have hw:Region.wanted o (yielded ops A.tmps)=true:=by simp [Region.wanted,hg]
  rw [if_pos hw]
  have hi:gK P H2 f ops o=(ug P H2 f o).getD (.op none .bad):=by simp [gK,hg]
  rw [hi] at hne hK
  rw [hst _ hng] at hne hK
  exact DY hcall happ hidle hloc hdef h hne hK
 |some q =>
  obtain ⟨j,b⟩:=q
  cases hd:(ops[j]?).bind (·.dst) with
  |none =>
   have hi:gK P H2 f ops o=.op none .bad:=by simp [gK,hg,hd]
   rw [hi] at hne
   exact absurd rfl hne
  |some t =>
  have hi:gK P H2 f ops o=.grd t b o.dst ((ug P H2 f o).getD (.op none .bad)):=by simp [gK,hg,hd]
  rw [hi] at hne hK
  simp only [jQ,qP] at hne hK
  generalize hv:aO F t=v at hne hK
  cases v with
  |bool c =>
   have hy:=EY h.s.f hd hv
   dsimp only at hne hK
   by_cases hcb:c=b
   ·subst hcb
    have hw:Region.wanted o (yielded ops A.tmps)=true:=by simp [Region.wanted,hg,hy]
    have hcc:(bif c then c else !c)=true:=by cases c<;>rfl
    rw [hcc] at hne hK
    simp only [cond_true] at hne hK
    rw [if_pos hw]
    exact DY hcall happ hidle hloc hdef h hne hK
   ·have hw:Region.wanted o (yielded ops A.tmps)=false:=by simp [Region.wanted,hg,hy,hcb]
    have hcc:(bif b then c else !c)=false:=by
     cases c<;>cases b<;>first|rfl|exact absurd rfl hcb
    rw [hcc] at hne hK
    simp only [cond_false] at hne hK
    rw [if_neg (by rw [hw];simp)]
    exact ⟨fun _ _=>trivial,hK g β σ lo _ _ w (h.put o.dst (.dP (.mkTuple (A:=#[]) (.nil g)))) .refl (oH _ _ _) rfl⟩
  |tuple vs =>
   cases vs with
   |cons a b=>exact absurd rfl hne
   |nil =>
    have hy:=EZ h.s.f hd hv
    dsimp only at hne hK
    have hw:Region.wanted o (yielded ops A.tmps)=false:=by simp [Region.wanted,hg,hy]
    rw [if_neg (by rw [hw];simp)]
    exact ⟨fun _ _=>trivial,hK g β σ lo _ _ w (h.put o.dst (.dP (.mkTuple (A:=#[]) (.nil g)))) .refl (oH _ _ _) rfl⟩
  |_=>exact absurd rfl hne
structure IE (g:G) (σ:H) (β:Nat→Option Nat) (A:Act) (w:World) (d:Nat) (z:List V) (b:Nat):Prop where
 slot:∀ x,A.tmps[d]?=some x→x=.pointer (some ⟨b,0,none⟩)
 cells:∃ C ty,w.heap[b]?=some (.cells C ty (0,0))∧kK g z C.toList
 phi:∀ o,g.φ b o=none
 live:¬Live g σ b
 box:¬Cj β b
theorem IE.lt {d:Nat} {z:List V} {b:Nat} (h:IE g σ β A w d z b):b<w.heap.size:=let ⟨_,_,h,_⟩:=h.cells;(fG.1 h).1
theorem IE.step {d:Nat} {z:List V} {b:Nat} (h:IE g σ β A w d z b) (hs:Stp g β σ w g' β' σ' w') (hA:A'.tmps[d]?=A.tmps[d]?):IE g' σ' β' A' w' d z b where
 slot x hx:=h.slot x (by rw [←hA];exact hx)
 cells:=by
  obtain ⟨C,ty,h1,h2⟩:=h.cells
  exact ⟨C,ty,(hs.nI.block b h.lt h.live h.box (.inl h.phi)).trans h1,h2.mono hs.le⟩
 phi:=hs.phi b h.lt h.phi h.live
 live hl:=h.live (hs.live b hl h.lt)
 box:=by rintro ⟨t,ht⟩;exact h.box (hs.box t b ht h.lt)
theorem IE.birth {d:Nat} {z:List V} {b:Nat} {g0:G} {β0:Nat→Option Nat} {σ0:H} {w0:World} (h:IE g σ β A w d z b) (hb0:w0.heap.size≤b) (hsc:Sc P (aQ P Hn) B0 g β σ lo F A w) (hs:Stp g0 β0 σ0 w0 g β σ w) :
  ∃ g',Sc P (aQ P Hn) B0 g' β (σ.new (.cells z)) lo (jW F d (.dF σ.next 0)) A w∧Stp g0 β0 σ0 w0 g' β (σ.new (.cells z)) w ∧
   (∀ d2 z2 b2,b2≠b→IE g σ β A w d2 z2 b2→IE g' (σ.new (.cells z)) β A w d2 z2 b2):=by
 obtain ⟨C,ty,h1,h2⟩:=h.cells
 have hle:=G.uo (g:=g) (b,C.size) (hsc.s.w.fresh _ (bC _)).1
 have hro:Ro P (aQ P Hn) (g.bind σ.next (b,C.size)) (.cells z) b C.size w:=⟨C,ty,h1,rfl,by have:=h2.1;simp at this;omega,fun j x hx=>let ⟨y,hy,hr⟩:=h2.get hx;⟨y,by simpa using hy,hr.mono hle⟩⟩
 have hw':=hsc.s.w.add h.live h.phi hro
 have hlv:∀ k,Live (g.bind σ.next (b,C.size)) (σ.new (.cells z)) k→k=b∨Live g σ k:=by
  rintro k ⟨i,m,hi,hk⟩
  by_cases e:i=σ.next
  ·subst e;simp at hk;exact .inl hk.1.symm
  ·rw [G.kL _ e] at hk
   rw [H.qw] at hi
   simp [Ne.symm e] at hi
   exact .inr ⟨i,m,hi,hk⟩
 refine ⟨_,⟨⟨?_,⟨fun t k e=>?_,fun t k e=>?_,hsc.s.b.inj⟩,hw'⟩,hsc.d,hsc.le⟩,⟨hs.le.trans hle,hs.nI,fun k hk hlt=>?_,hs.box,fun k hk hp hl o=>hs.phi k hk hp hl o⟩,fun d2 z2 b2 hne h3=>⟨h3.slot,?_,h3.phi,fun hl=>?_,h3.box⟩⟩
 ·have hf:=hsc.s.f.mono hle
  refine ⟨by rw [iw];exact hf.size,fun t v x hv hx=>?_⟩
  rw [Ew] at hv
  split at hv
  ·rename_i hq
   obtain ⟨rfl,_⟩:=hq
   cases hv
   rw [h.slot x hx]
   exact .dP (.dF 0 (G.oq _ _ _))
  ·exact hf.slots t v x hv hx
 ·obtain ⟨cs,c,ty',k1,k2,k3,k4⟩:=hsc.s.b.boxes t k e
  exact ⟨cs,c,ty',k1,k2,k3,fun j x hx=>let ⟨v,a,r⟩:=k4 j x hx;⟨v,a,r.mono hle⟩⟩
 ·obtain ⟨k1,k2⟩:=hsc.s.b.apart t k e
  refine ⟨fun hl=>?_,k2⟩
  rcases hlv k hl with rfl|hl
  ·exact h.box ⟨t,e⟩
  ·exact k1 hl
 ·rcases hlv k hk with rfl|hl
  ·omega
  ·exact hs.live k hl hlt
 ·obtain ⟨C2,ty2,q1,q2⟩:=h3.cells
  exact ⟨C2,ty2,q1,q2.mono hle⟩
 ·rcases hlv b2 hl with e|hl
  ·exact hne e
  ·exact h3.live hl
theorem VU {f:Nat} {o:Oper} {z:List V} (h:cOp P H2 f o=some (.bM z)):∃ t zz,o.op=.alloc t∧mg P t=some zz∧zz.cells=z:=by
 obtain ⟨dst,op,ty,pos,aft,gd⟩:=o
 unfold cOp at h
 simp only [iJ,Option.pure_def] at h
 cases op with
 |alloc t =>
  simp only [ay,aC] at h
  obtain ⟨zz,hz,h⟩:=h
  split at h
  ·cases h;exact ⟨t,zz,rfl,hz,rfl⟩
  ·cases h
 |box t x =>
  simp only [ay,aC] at h
  obtain ⟨y,hy,h⟩:=h
  split at h<;>cases h
 |build t ps =>
  simp only [ay] at h
  obtain ⟨z',hz,ds,hds,h⟩:=h
  split at h<;>simp [ay] at h
 |buildSlice t n ps =>
  simp only [ay] at h
  obtain ⟨ds,hds,h⟩:=h
  split at h
  ·simp only [ay] at h
   obtain ⟨s,hs,z',hz,vps,hv,h⟩:=h
   split at h<;>cases h
  ·cases h
 |load t a =>
  simp only [ay] at h
  obtain ⟨y,hy,b,hb,h⟩:=h
  cases b<;>simp [ay] at h
 |binOp b t x y yt=>cases b<;>simp [ay] at h
 |unOp u t x=>cases u<;>simp [ay] at h
 |convert s t x =>
  simp only [ay] at h
  obtain ⟨ds,hds,dt,hdt,h⟩:=h
  split at h
  ·simp [ay] at h
  ·simp [ay] at h
  ·simp only [ay] at h
   obtain ⟨de,hde,h⟩:=h
   split at h
   ·split at h<;>simp [ay] at h
   ·cases h
  ·simp only [ay] at h
   obtain ⟨de,hde,h⟩:=h
   split at h<;>simp [ay] at h
  ·simp only [ay] at h
   obtain ⟨de,hde,h⟩:=h
   split at h<;>simp [ay] at h
  ·cases h
 |makeInterface t x =>
  simp only [ay] at h
  obtain ⟨ds,hds,h⟩:=h
  split at h<;>simp [ay] at h
 |makeFunc fn a b=>cases fn<;>simp [ay] at h
 |makeMap t r=>cases r<;>simp at h
 |makeSlice t l c =>
  simp only [ay] at h
  obtain ⟨ds,hds,h⟩:=h
  split at h
  ·simp only [ay] at h
   obtain ⟨s,hs,h⟩:=h
   split at h<;>simp [ay] at h
  ·cases h
 |slice t x l hi m =>
  simp only [ay] at h
  obtain ⟨ds,hds,h⟩:=h
  split at h<;>simp [ay] at h
 |fieldAddr t x i =>
  simp only [ay] at h
  obtain ⟨⟨off,ag,s⟩,hf,h⟩:=h
  dsimp only at h
  split at h<;>simp [ay] at h
 |field t x i =>
  simp only [ay] at h
  obtain ⟨⟨off,ag,s⟩,hf,h⟩:=h
  simp [ay] at h
 |indexAddr t x i =>
  simp only [ay] at h
  obtain ⟨ds,hds,h⟩:=h
  split at h<;>simp [ay] at h
 |index t x i =>
  simp only [ay] at h
  obtain ⟨ds,hds,h⟩:=h
  split at h<;>simp [ay] at h
 |lookup t x i ok =>
  simp only [ay] at h
  obtain ⟨ds,hds,h⟩:=h
  split at h<;>simp [ay] at h
 |mapUpdate t m k x =>
  simp only [ay] at h
  obtain ⟨ds,hds,h⟩:=h
  split at h<;>simp [ay] at h
 |insert t m k x =>
  simp only [ay] at h
  obtain ⟨ds,hds,h⟩:=h
  split at h<;>simp [ay] at h
 |call c =>
  obtain ⟨callee,args,ats⟩:=c
  cases callee with
  |builtin b =>
   dsimp only at h
   split at h
   ·simp only [ay] at h
    obtain ⟨t,ht,ds,hds,h⟩:=h
    split at h<;>simp [ay] at h
   ·simp only [ay] at h
    obtain ⟨t,ht,ds,hds,h⟩:=h
    split at h<;>simp [ay] at h
   ·simp [ay] at h
   ·simp [ay] at h
   ·simp only [ay] at h
    obtain ⟨t,ht,ds,hds,h⟩:=h
    split at h
    ·simp only [ay] at h
     obtain ⟨s,hs,u,hu,du,Vq,h⟩:=h
     split at h<;>first|(simp [ay] at h;done)|(split at h<;>simp [ay] at h)
    ·cases h
   ·simp only [ay] at h
    obtain ⟨t,ht,ds,hds,h⟩:=h
    split at h<;>simp [ay] at h
   ·simp only [ay] at h
    obtain ⟨t,ht,ds,hds,h⟩:=h
    split at h<;>simp [ay] at h
   ·cases h
  |_=>simp at h
 |_=>simp [ay] at h
theorem adH {ops:Array Oper} {f i d:Nat} {o:Oper} {z:List V} {Q:Exit→Act→World→Prop} {K:Act→World→Prop} (ho:ops[i]?=some o) (hi:gK P H2 f ops o=.op (some d) (.bM z)) (h:Sc P (aQ P Hn) B0 g β σ lo F A w)
  (hK:∀ A' w',Sc P (aQ P Hn) B0 g β σ lo (jW F d .undef) A' w'→Stp g β σ w g β σ w'→(∀ t:Nat,o.dst≠some t→A'.tmps[t]?=A.tmps[t]?)→IE g σ β A' w' d z w.heap.size→o.dst=some d→K A' w'):wpOpIn (Fw ro) 0 P ops Q i K A w:=by
 have hgd:o.guard=none:=by
  cases hg:o.guard with
  |none=>rfl
  |some q =>
   obtain ⟨j,b⟩:=q
   simp only [gK,hg] at hi
   split at hi<;>cases hi
 have hc:ug P H2 f o=some (.op (some d) (.bM z)):=by
  simp only [gK,hgd] at hi
  cases hc:ug P H2 f o with
  |none=>rw [hc] at hi;cases hi
  |some i0=>rw [hc] at hi;simpa using hi
 have hop:o.dst=some d∧cOp P H2 f o=some (.bM z):=by
  unfold ug at hc
  split at hc
  ·simp [ay] at hc
  ·simp [ay] at hc
  ·split at hc
   ·cases hc
   ·simp [ay] at hc
  ·simp only [iJ,Option.pure_def,ay,aC] at hc
   obtain ⟨Cb,hv,he⟩:=hc
   simp only [Ins.op.injEq] at he
   exact ⟨he.1,by rw [←he.2];exact hv⟩
 obtain ⟨hd,hv⟩:=hop
 obtain ⟨t,zz,hop,hz,rfl⟩:=VU hv
 obtain ⟨it,Z,hit,hZ,hzc⟩:=kY (g:=g) hz
 have hzero:(zeroValue t).run P w=.ok Z w:=by simp [zeroValue,typeInfo,program,Sem.run,hit,hZ,Result.andThen]
 have hex:(execOp A.eval o).run P w=.ok (.value (.pointer (some ⟨w.heap.size,0,none⟩))) (w.alloc (.cells Z.cells t (0,0))):=by
  simp only [execOp,hop,Instr.alloc,aA,hzero,Result.andThen,newVar,newRow,run_newObj_alloc,Sem.run_pure]
 have hw:Region.wanted o (yielded ops A.tmps)=true:=by simp [Region.wanted,hgd]
 unfold wpOpIn
 rw [ho]
 dsimp only
 rw [if_pos hw]
 refine ⟨fun _ _=>trivial,?_⟩
 have hse:(o.semAt (Fw ro).round A.eval)=execOp A.eval o:=Oper.semAt_eq _ _ _ (fun c hc=>by rw [hop] at hc;cases hc)
 rw [hse,hex]
 have hbl:∀ k,k<w.heap.size→(w.alloc (.cells Z.cells t (0,0))).heap[k]?=w.heap[k]?:=fun k hk=>Below.heap_alloc w _ k hk
 have hst:Stp g β σ w g β σ (w.alloc (.cells Z.cells t (0,0))):=⟨.refl g,Frm.alloc _ _,fun _ h _=>h,fun t b h _=>⟨t,h⟩,fun _ _ h _=>h⟩
 have hput:(eF F (some d) .undef)=jW F d .undef:=rfl
 refine hK _ _ ⟨⟨?_,?_,h.s.w.alloc _⟩,?_,?_⟩ hst (oH _ _ _) ⟨fun x hx=>?_,⟨Z.cells,t,Go.World.alloc_heap_new w _,hzc⟩,fun o=>h.s.w.nC (bC _) o,uz h.s.w,?_⟩ hd
 ·rw [hd,←hput];exact h.s.f.eF (.dP (.undef _))
 ·refine h.s.b.same (.refl g) (fun _ hl _=>hl) (fun _ _ hp _ o=>hp o) (fun t' b e=>?_)
  obtain ⟨cs,c,ty',_,h5,_⟩:=h.s.b.boxes t' b e
  exact hbl b (fG.1 h5).1
 ·rw [put_defers];exact h.step hst rfl
 ·exact Nat.le_trans h.le hst.nI.size
 ·rw [hd] at hx
  simp only [Act.put,Array.getElem?_setIfInBounds] at hx
  split at hx
  ·split at hx
   ·cases hx;rfl
   ·cases hx
  ·rename_i hq;exact absurd trivial hq
 ·rintro ⟨t',ht'⟩
  obtain ⟨cs,c,ty',_,h5,_⟩:=h.s.b.boxes t' _ ht'
  have:=(fG.1 h5).1
  omega
end
section
variable {P:Program} {Hn H2:Hints} {comp:FuncId→Code→aH} {g g' g'':G} {σ σ' oJ:H} {w w' w'':World} {β β' β'':Nat→Option Nat} {lo lo':Lo} {fr fr' F F':List V} {A A':Act} {B0:Nat} {ro:Option Nat}
structure Stat (P:Program) (H2:Hints) (f:Nat) (ops:Array Oper) (ins:Nat→Ins) (cls ms:Nat→Nat) (sw:Nat→Prop):Prop where
 MN:∀ i o,¬sw i→ops[i]?=some o→ins i=gK P H2 f ops o
 low:∀ i,i<ops.size→cls i<2→∃ d,(ins i).dst=some d∧LD d (cls i) (ins i)
 alc:∀ i,i<ops.size→cls i=3→∃ d z,ins i=.op (some d) (.bM z)
 cl3:∀ i,cls i<2∨cls i=2∨cls i=3
 mask:∀ i o j,¬sw i→ops[i]?=some o→(ms i).testBit j=true→∃ e∈o.after,Region.binds .any e=true∧(e.on=j∨(ms e.on).testBit j=true)
 uniq:∀ i j d,i<ops.size→j<ops.size→cls i≠2→cls j≠2→(ins i).dst=some d→(ins j).dst=some d→i=j
 axT:∀ e i d,e<ops.size→i<ops.size→cls e=2→cls i≠2→(ins e).dst=some d→(ins i).dst≠some d
 reads:∀ i j t,i<ops.size→j<ops.size→cls i≠3→cls j≠2→(ins j).dst=some t→t∈(ins i).slots→(ms i).testBit j=true∧(cls i=2∨cls j≠3)
 loc:∀ i,i<ops.size→BI (ins i)=true
 Jc:∀ i,cls i≠2→i<ops.size
 ayw:∀ i o,ops[i]?=some o→∀ e∈o.after,Region.binds .any e=true→e.on<i
def done (listed:Array Bool) (i:Nat):Prop:=listed.getD i true=true
instance (listed:Array Bool) (i:Nat):Decidable (done listed i):=inferInstanceAs (Decidable (_=_))
def Closed (ops:Array Oper) (ms:Nat→Nat) (listed:Array Bool):Prop:=∀ j,j<ops.size→done listed j→∀ i,(ms j).testBit i=true→i<ops.size∧done listed i
theorem dN {listed:Array Bool} {i j:Nat}:done (listed.setIfInBounds i true) j↔done listed j∨i=j:=by
 unfold done
 by_cases h:i=j
 ·subst h
  by_cases hs:i<listed.size
  ·simp [hs,Array.getD]
  ·simp [Array.getD,hs]
 ·have:(listed.setIfInBounds i true).getD j true=listed.getD j true:=getD_set_ne true h
  rw [this];simp [h]
theorem jP {ops:Array Oper} {ins:Nat→Ins} {cls ms:Nat→Nat} {f:Nat} {listed:Array Bool} {j:Nat} {sw:Nat→Prop} (hs:Stat P H2 f ops ins cls ms sw) (hw:sw j→∀ i,(ms j).testBit i=true→i<ops.size∧done listed i) (hl:listed.size=ops.size) (hc:Closed ops ms listed) (hr:j∈Region.ready .any ops listed) :
  j<ops.size∧¬done listed j∧∀ i,(ms j).testBit i=true→i<ops.size∧done listed i:=by
 obtain ⟨h0,o,ho,hall⟩:=mem_ready.1 hr
 have hj:=(fG.1 ho).1
 refine ⟨hj,by unfold done;rw [h0];simp,fun i hi=>?_⟩
 by_cases hsj:sw j
 ·exact hw hsj i hi
 obtain ⟨e,he,hb,hcase⟩:=hs.mask j o i hsj ho hi
 have hd:=hall e he hb
 have hlt:e.on<listed.size:=by
  by_cases hq:e.on<listed.size
  ·exact hq
  ·simp [Array.getD,hq] at hd
 have hdone:done listed e.on:=by
  unfold done
  simp only [Array.getD,hlt,dif_pos] at hd ⊢
  exact hd
 rcases hcase with rfl|h
 ·exact ⟨by omega,hdone⟩
 ·exact hc e.on (by omega) hdone i h
theorem Jb {ops:Array Oper} {ins:Nat→Ins} {cls ms:Nat→Nat} {f:Nat} {listed:Array Bool} {j:Nat} {sw:Nat→Prop} (hs:Stat P H2 f ops ins cls ms sw) (hw:sw j→∀ i,(ms j).testBit i=true→i<ops.size∧done listed i) (hl:listed.size=ops.size) (hc:Closed ops ms listed) (hr:j∈Region.ready .any ops listed):Closed ops ms (listed.setIfInBounds j true):=by
 intro k hk hd i hi
 rcases dN.1 hd with hd|rfl
 ·exact ⟨(hc k hk hd i hi).1,dN.2 (.inl (hc k hk hd i hi).2)⟩
 ·obtain ⟨_,_,h3⟩:=jP hs hw hl hc hr
  exact ⟨(h3 i hi).1,dN.2 (.inl (h3 i hi).2)⟩
structure Core (P:Program) (Hn:Hints) (ops:Array Oper) (ins:Nat→Ins) (cls ms:Nat→Nat) (B0:Nat) (g0:G) (β0:Nat→Option Nat) (σ0:H) (w0:World) (born:List Nat) (lo:Lo) (σ:H) (Gr:List V)
  (listed:Array Bool) (A:Act) (w:World) (g:G) (β:Nat→Option Nat) (F:List V) (pb:Nat→Nat):Prop where
 size:listed.size=ops.size
 closed:Closed ops ms listed
 sc:Sc P (aQ P Hn) B0 g β σ lo F A w
 stp:Stp g0 β0 σ0 w0 g β σ w
 len:F.length=Gr.length
 agr:∀ t,aO F t=aO Gr t∨(∃ j,j<ops.size∧cls j<2∧¬done listed j∧(ins j).dst=some t)∨(∃ a,a<ops.size∧cls a=3∧a∉born∧(ins a).dst=some t)
 IU:∀ a∈born,a<ops.size∧cls a=3∧done listed a
 pend:∀ a d z,a<ops.size→cls a=3→done listed a→a∉born→ins a=.op (some d) (.bM z)→w0.heap.size≤pb a∧IE g σ β A w d z (pb a)
 Ur:∀ a a',a<ops.size→a'<ops.size→cls a=3→cls a'=3→done listed a→done listed a'→a∉born→a'∉born→pb a=pb a'→a=a'
structure Inv (P:Program) (Hn:Hints) (ops:Array Oper) (ins:Nat→Ins) (cls ms:Nat→Nat) (B0:Nat) (g0:G) (β0:Nat→Option Nat) (σ0:H) (w0:World) (win born todo:List Nat) (lo:Lo) (σ:H) (Gr:List V)
  (listed:Array Bool) (A:Act) (w:World) (g:G) (β:Nat→Option Nat) (F:List V) (pb:Nat→Nat):Prop where
 core:Core P Hn ops ins cls ms B0 g0 β0 σ0 w0 born lo σ Gr listed A w g β F pb
 idem:∀ i∈win,¬done listed i→∀ d,(ins i).dst=some d→∃ v,nval (ins i) Gr lo σ=some v∧(d<Gr.length→aO Gr d=v)
 N9:∀ i∈win,i<ops.size∧cls i<2
 azD:∀ i,i<ops.size→cls i<2→¬done listed i→i∈win∨∃ e∈todo,(ms i).testBit e=true
 Ba:∀ e∈todo,e<ops.size∧cls e=2∧¬done listed e
 Hq:∀ e,e<ops.size→cls e=2→¬done listed e→e∈todo
variable {ops:Array Oper} {ins:Nat→Ins} {cls ms:Nat→Nat} {f:Nat} {listed:Array Bool} {win born todo:List Nat} {Gr:List V} {pb:Nat→Nat} {g0:G} {β0:Nat→Option Nat} {σ0:H} {w0:World}
theorem Core.same (hi:Core P Hn ops ins cls ms B0 g0 β0 σ0 w0 born lo σ Gr listed A w g β F pb) {sw:Nat→Prop} (hs:Stat P H2 f ops ins cls ms sw) {i:Nat} (hlt:i<ops.size) (hm:∀ j,(ms i).testBit j=true→j<ops.size∧done listed j)
  (hc:cls i<2∨(cls i=2∧∀ a,a<ops.size→cls a=3→(ms i).testBit a=true→a∈born)):Same (ins i).slots F Gr:=by
 intro t ht
 rcases hi.agr t with h|⟨j,hj,hcj,hnd,hd⟩|⟨a,ha,hca,hnb,hd⟩
 ·exact h
 ·have h3:cls i≠3:=by rcases hc with h|⟨h,_⟩<;>omega
  have:=(hs.reads i j t hlt hj h3 (by omega) hd ht).1
  exact absurd (hm j this).2 hnd
 ·have h3:cls i≠3:=by rcases hc with h|⟨h,_⟩<;>omega
  have:=hs.reads i a t hlt ha h3 (by omega) hd ht
  rcases hc with h|⟨_,h⟩
  ·rcases this.2 with h2|h2
   ·omega
   ·exact absurd hca h2
  ·exact absurd (h a ha hca this.1) hnb
theorem adX {o:Oper} {i:Ins} (h:ug P H2 f o=some i):i.dst=o.dst:=by
 unfold ug at h
 split at h
 ·simp only [iJ,Option.pure_def,ay,aC] at h
  obtain ⟨_,_,rfl⟩:=h;rfl
 ·simp only [iJ,Option.pure_def,ay,aC] at h
  obtain ⟨_,_,_,_,rfl⟩:=h;rfl
 ·split at h
  ·cases h
  ·rename_i hd
   simp only [iJ,Option.pure_def,ay,aC] at h
   obtain ⟨_,_,_,_,rfl⟩:=h
   cases hq:o.dst with
   |none=>rfl
   |some t=>rw [hq] at hd;simp at hd
 ·simp only [iJ,Option.pure_def,ay,aC] at h
  obtain ⟨_,_,rfl⟩:=h;rfl
theorem Fq {o:Oper} (h:gK P H2 f ops o≠.op none .bad):(gK P H2 f ops o).dst=o.dst:=by
 unfold gK at h ⊢
 cases hg:o.guard with
 |none =>
  rw [hg] at h
  dsimp only at h ⊢
  cases hc:ug P H2 f o with
  |none=>rw [hc] at h;exact absurd rfl h
  |some i=>exact adX hc
 |some q =>
  obtain ⟨j,b⟩:=q
  rw [hg] at h
  dsimp only at h ⊢
  cases hd:(ops[j]?).bind (·.dst) with
  |none=>rw [hd] at h;exact absurd rfl h
  |some t=>rfl
theorem Core.put {sw:Nat→Prop} (hi:Core P Hn ops ins cls ms B0 g0 β0 σ0 w0 born lo σ Gr listed A w g β F pb) (hs:Stat P H2 f ops ins cls ms sw) {j:Nat} (hw:sw j→∀ i,(ms j).testBit i=true→i<ops.size∧done listed i) (hr:j∈Region.ready .any ops listed) {lo':Lo} {σ':H} {v:V} {zn:List V} {dj:Option Nat}
  (hdj:(ins j).dst=dj) (hcj:cls j≠3) (hGr:zn.length=Gr.length) (hG:∀ t,(aO (eF F dj v) t=aO zn t)∨(dj≠some t∧aO zn t=aO Gr t))
  (hsc:Sc P (aQ P Hn) B0 g' β' σ' lo' (eF F dj v) A' w') (hst:Stp g β σ w g' β' σ' w') (hA:∀ t:Nat,dj≠some t→A'.tmps[t]?=A.tmps[t]?) :
  Core P Hn ops ins cls ms B0 g0 β0 σ0 w0 born lo' σ' zn (listed.setIfInBounds j true) A' w' g' β' (eF F dj v) pb:=by
 have hrm:=jP hs hw hi.size hi.closed hr
 refine ⟨by simp [hi.size],Jb hs hw hi.size hi.closed hr,hsc,hi.stp.trans hst,by rw [AA,hGr];exact hi.len,fun t=>?_,fun a ha=>?_,fun a d z ha hca hda hnb hz=>?_,fun a a' ha ha' hca aeO hda RD hnb hnb' he=>?_⟩
 ·rcases hG t with h|⟨h1,h2⟩
  ·exact .inl h
  ·rcases hi.agr t with h|⟨k,hk,hck,hnd,hd⟩|⟨a,ha,hca,hnb,hd⟩
   ·exact .inl (by rw [sN h1,h2,h])
   ·refine .inr (.inl ⟨k,hk,hck,fun hdone=>?_,hd⟩)
    rcases dN.1 hdone with h|rfl
    ·exact hnd h
    ·exact h1 (by rw [←hdj,hd])
   ·exact .inr (.inr ⟨a,ha,hca,hnb,hd⟩)
 ·obtain ⟨h1,h2,h3⟩:=hi.IU a ha
  exact ⟨h1,h2,dN.2 (.inl h3)⟩
 ·have hne:j≠a:=by intro e;subst e;exact hcj hca
  have RD:done listed a:=(dN.1 hda).resolve_right hne
  obtain ⟨h1,h2⟩:=hi.pend a d z ha hca RD hnb hz
  refine ⟨h1,h2.step hst (hA d ?_)⟩
  intro e
  rw [←hdj] at e
  have anV:(ins a).dst=some d:=by rw [hz];rfl
  rcases hs.cl3 j with hc|hc|hc
  ·exact hne (hs.uniq j a d hrm.1 ha (by omega) (by omega) e anV)
  ·exact hs.axT j a d hrm.1 ha hc (by omega) e anV
  ·exact hcj hc
 ·have hne:j≠a:=by intro e;subst e;exact hcj hca
  have hne':j≠a':=by intro e;subst e;exact hcj aeO
  exact hi.Ur a a' ha ha' hca aeO ((dN.1 hda).resolve_right hne) ((dN.1 RD).resolve_right hne') hnb hnb' he
end
section
variable {P:Program} {Hn H2:Hints} {comp:FuncId→Code→aH} {g g' g'':G} {σ σ' oJ:H} {w w' w'':World} {β β' β'':Nat→Option Nat} {lo lo':Lo} {fr fr' F F':List V} {A A':Act} {B0:Nat} {ro:Option Nat}
variable {sw:Nat→Prop} {ops:Array Oper} {ins:Nat→Ins} {cls ms:Nat→Nat} {f:Nat} {listed:Array Bool} {win born todo:List Nat} {Gr:List V} {pb:Nat→Nat} {g0:G} {β0:Nat→Option Nat} {σ0:H} {w0:World}
structure Gs (P:Program) (Hn H2:Hints) (ops:Array Oper) (ro:Option Nat) (ih:Ih):Prop where
 call:∀ f args σ,nM P Hn f args σ (ih (.call f args) [] [] σ)
 app:∀ fv args σ,L6 P Hn fv args σ (ih (.app fv args) [] [] σ)
 idle:∀ q∈H2.idle,wZ P q
 loc:∀ t k args σ,ih (.app (.bf t k) args) [] [] σ=.fail
 defer:ro.isSome=true→yP ops=true
theorem Gs.hdef {ih:Ih} (h:Gs P Hn H2 ops ro ih) {i:Nat} {o:Oper} (ho:ops[i]?=some o):ro.isSome=true→∀ c,o.op≠.defer c:=by
 intro hr c hc
 have hnd:=h.defer hr
 simp only [yP,Array.all_eq_true] at hnd
 have hlt:=(fG.1 ho).1
 have:=hnd i hlt
 have ho':ops[i]=o:=by rw [Array.getElem?_eq_getElem hlt] at ho;exact gy ho
 rw [ho',hc] at this
 cases this
theorem YQ {ih:Ih} (hm:Gs P Hn H2 ops ro ih) (hs:Stat P H2 f ops ins cls ms sw) (hi:Inv P Hn ops ins cls ms B0 g0 β0 σ0 w0 win born todo lo σ Gr listed A w g β F pb) {j:Nat} (hsw:¬sw j) (hr:j∈Region.ready .any ops listed) (hc:cls j<2)
  {Q:Exit→Act→World→Prop} {K:Act→World→Prop}
  (hK:∀ A' w' g' β' F',Inv P Hn ops ins cls ms B0 g0 β0 σ0 w0 win born todo lo σ Gr (listed.setIfInBounds j true) A' w' g' β' F' pb→K A' w'):wpOpIn (Fw ro) 0 P ops Q j K A w:=by
 obtain ⟨hlt,hnd,hms⟩:=jP hs (fun h=>absurd h hsw) hi.core.size hi.core.closed hr
 obtain ⟨d,hd,hni⟩:=hs.low j hlt hc
 have hwin:j∈win:=by
  rcases hi.azD j hlt hc hnd with h|⟨e,he,hb⟩
  ·exact h
  ·exact absurd (hms e hb).2 (hi.Ba e he).2.2
 obtain ⟨vj,hval,hvj⟩:=hi.idem j hwin hnd d hd
 have hsame:=hi.core.same hs hlt hms (.inl hc)
 rw [←xK hsame] at hval
 have hrun:=TL hni ih F lo σ
 rw [hval] at hrun
 dsimp only at hrun
 have ho:ops[j]?=some ops[j]:=Array.getElem?_eq_getElem hlt
 have hins:=hs.MN j _ hsw ho
 have hdst:ops[j].dst=some d:=by
  have:(gK P H2 f ops ops[j]).dst=ops[j].dst:=Fq (by rw [←hins];intro e;rw [e] at hd;cases hd)
  rw [←this,←hins];exact hd
 rw [hins] at hrun
 refine agd (ih:=yL ih) hm.call hm.app hm.idle hm.loc ho (hm.hdef ho) hi.core.sc (by rw [hrun];simp) fun g' β' σ' lo' fr' A' w' hsc hst hA he=>?_
 rw [hrun,rU] at he
 simp only [Out.norm.injEq] at he
 obtain ⟨rfl,rfl,rfl⟩:=he
 refine hK A' w' g' β' (eF F (some d) vj) ⟨?_,fun i hw hn=>hi.idem i hw (fun h=>hn (dN.2 (.inl h))),hi.N9,fun i h1 h2 hn=>hi.azD i h1 h2 (fun h=>hn (dN.2 (.inl h))),fun e he=>?_,fun e h1 h2 hn=>hi.Hq e h1 h2 (fun h=>hn (dN.2 (.inl h)))⟩
 ·refine hi.core.put (dj:=some d) (v:=vj) hs (fun h=>absurd h hsw) hr hd (by omega) rfl (fun t=>?_) hsc hst (by rw [hdst] at hA;exact hA)
  by_cases ht:d=t
  ·subst ht
   refine .inl ?_
   simp only [eF,dR]
   split
   ·rename_i hq
    exact (hvj (by rw [←hi.core.len];exact hq.2)).symm
   ·rename_i hq
    have hn:¬d<F.length:=fun h=>hq ⟨trivial,h⟩
    have h1:F[d]?=none:=gI (by omega)
    have h2:Gr[d]?=none:=gI (by rw [←hi.core.len];omega)
    rw [pG,pG,h1,h2]
  ·exact .inr ⟨fun e=>ht (gy e),rfl⟩
 ·obtain ⟨h1,h2,h3⟩:=hi.Ba e he
  refine ⟨h1,h2,fun h=>?_⟩
  rcases dN.1 h with h|rfl
  ·exact h3 h
  ·omega
theorem ahi (hs:Stat P H2 f ops ins cls ms sw) (hi:Inv P Hn ops ins cls ms B0 g0 β0 σ0 w0 win born todo lo σ Gr listed A w g β F pb) {j:Nat} (hsw:¬sw j) (hr:j∈Region.ready .any ops listed) (hc:cls j=3)
  {Q:Exit→Act→World→Prop} {K:Act→World→Prop}
  (hK:∀ A' w' g' β' F' pb',Inv P Hn ops ins cls ms B0 g0 β0 σ0 w0 win born todo lo σ Gr (listed.setIfInBounds j true) A' w' g' β' F' pb'→K A' w'):wpOpIn (Fw ro) 0 P ops Q j K A w:=by
 obtain ⟨hlt,hnd,hms⟩:=jP hs (fun h=>absurd h hsw) hi.core.size hi.core.closed hr
 obtain ⟨d,z,hiz⟩:=hs.alc j hlt hc
 have ho:ops[j]?=some ops[j]:=Array.getElem?_eq_getElem hlt
 have hins:=hs.MN j _ hsw ho
 have hnb:j∉born:=fun h=>hnd (hi.core.IU j h).2.2
 have hdj:(ins j).dst=some d:=by rw [hiz];rfl
 refine adH ho (by rw [←hins];exact hiz) hi.core.sc fun A' w' hsc hst hA hp hod=>?_
 rw [hod] at hA
 refine hK A' w' g β _ (fun k=>if k=j then w.heap.size else pb k) ⟨⟨by simp [hi.core.size],Jb hs (fun h=>absurd h hsw) hi.core.size hi.core.closed hr,hsc,hi.core.stp.trans hst,by rw [iw];exact hi.core.len,fun t=>?_,fun a ha=>?_,fun a d' z' ha hca hda anW hz=>?_,fun a a' ha ha' hca aeO hda RD anW arq he=>?_⟩,
  fun i hw hn=>hi.idem i hw (fun h=>hn (dN.2 (.inl h))),hi.N9,fun i h1 h2 hn=>hi.azD i h1 h2 (fun h=>hn (dN.2 (.inl h))),fun e he=>?_,fun e h1 h2 hn=>hi.Hq e h1 h2 (fun h=>hn (dN.2 (.inl h)))⟩
 ·by_cases ht:d=t
  ·subst ht
   exact .inr (.inr ⟨j,hlt,hc,hnb,hdj⟩)
  ·have:aO (jW F d .undef) t=aO F t:=by rw [dR];simp [ht]
   rcases hi.core.agr t with h|⟨k,hk,hck,hnd',hd⟩|h
   ·exact .inl (by rw [this,h])
   ·refine .inr (.inl ⟨k,hk,hck,fun hdone=>?_,hd⟩)
    rcases dN.1 hdone with h|rfl
    ·exact hnd' h
    ·omega
   ·exact .inr (.inr h)
 ·obtain ⟨h1,h2,h3⟩:=hi.core.IU a ha
  exact ⟨h1,h2,dN.2 (.inl h3)⟩
 ·by_cases haj:a=j
  ·subst haj
   rw [hiz] at hz;cases hz
   simp only [if_true]
   exact ⟨hi.core.stp.nI.size,hp⟩
  ·rw [if_neg haj]
   have RD:done listed a:=(dN.1 hda).resolve_right (Ne.symm haj)
   obtain ⟨h1,h2⟩:=hi.core.pend a d' z' ha hca RD anW hz
   refine ⟨h1,h2.step hst (hA d' ?_)⟩
   intro e
   have anV:(ins a).dst=some d':=by rw [hz];rfl
   exact haj (hs.uniq j a d' hlt ha (by omega) (by omega) (by rw [hdj,e]) anV).symm
 ·have key:∀ k,k<ops.size→cls k=3→done (listed.setIfInBounds j true) k→k∉born→k≠j→pb k<w.heap.size:=by
   intro k hk hck hdk aIJ hkj
   obtain ⟨d2,z2,hz2⟩:=hs.alc k hk hck
   exact (hi.core.pend k d2 z2 hk hck ((dN.1 hdk).resolve_right (Ne.symm hkj)) aIJ hz2).2.lt
  by_cases h1:a=j
  ·by_cases h2:a'=j
   ·rw [h1,h2]
   ·exfalso
    have:=key a' ha' aeO RD arq h2
    rw [if_pos h1,if_neg h2] at he
    omega
  ·by_cases h2:a'=j
   ·exfalso
    have:=key a ha hca hda anW h1
    rw [if_neg h1,if_pos h2] at he
    omega
   ·rw [if_neg h1,if_neg h2] at he
    exact hi.core.Ur a a' ha ha' hca aeO ((dN.1 hda).resolve_right (Ne.symm h1)) ((dN.1 RD).resolve_right (Ne.symm h2)) anW arq he
 ·obtain ⟨h1,h2,h3⟩:=hi.Ba e he
  refine ⟨h1,h2,fun h=>?_⟩
  rcases dN.1 h with h|rfl
  ·exact h3 h
  ·omega
theorem adT {ih:Ih} {tl:List Ins} {out:Out} (hs:Stat P H2 f ops ins cls ms sw):∀ (lD:List Nat) {born:List Nat} {σ:H} {Gr F:List V} {g:G},(∀ a∈lD,a<ops.size∧cls a=3∧done listed a∧a∉born)→lD.Nodup →
  Core P Hn ops ins cls ms B0 g0 β0 σ0 w0 born lo σ Gr listed A w g β F pb→bW ih (lD.map ins++tl) Gr lo σ=out →
  ∃ σ' zn F' g',Core P Hn ops ins cls ms B0 g0 β0 σ0 w0 (born++lD) lo σ' zn listed A w g' β F' pb∧bW ih tl zn lo σ'=out∧(∀ t,t∉ou ins lD→aO zn t=aO Gr t)∧zn.length=Gr.length:=by
 intro lD
 induction lD with
 |nil=>intro born σ Gr F g _ _ hc hr;exact ⟨σ,Gr,F,g,by simpa using hc,by simpa using hr,fun _ _=>rfl,rfl⟩
 |cons a lD ihl =>
  intro born σ Gr F g hal hn hc hr
  obtain ⟨ha,hca,hda,hnb⟩:=hal a (by simp)
  obtain ⟨d,z,hz⟩:=hs.alc a ha hca
  obtain ⟨hw0,hp⟩:=hc.pend a d z ha hca hda hnb hz
  obtain ⟨g1,hsc1,hst1,hoth⟩:=hp.birth hw0 hc.sc hc.stp
  have hnd:=List.nodup_cons.1 hn
  have hdst:(ins a).dst=some d:=by rw [hz];rfl
  have hstep:bW ih (lD.map ins++tl) (jW Gr d (.dF σ.next 0)) lo (σ.new (.cells z))=out:=by
   rw [←hr]
   simp only [List.map_cons,List.cons_append,bW,hz]
   rfl
  have hcore:Core P Hn ops ins cls ms B0 g0 β0 σ0 w0 (born++[a]) lo (σ.new (.cells z)) (jW Gr d (.dF σ.next 0)) listed A w g1 β (jW F d (.dF σ.next 0)) pb:=by
   refine ⟨hc.size,hc.closed,hsc1,hst1,by rw [iw,iw];exact hc.len,fun t=>?_,fun b hb=>?_,fun b d' z' hb hcb hdb abm hzb=>?_,fun b b' hb hb' hcb hcb' hdb aIA abm aA3 he=>?_⟩
   ·by_cases ht:d=t
    ·subst ht
     exact .inl (Ah (d:=some d) hc.len rfl)
    ·have e1:∀ X:List V,aO (jW X d (.dF σ.next 0)) t=aO X t:=fun X=>by rw [dR];simp [ht]
     rw [e1,e1]
     rcases hc.agr t with h|h|⟨b,hb,hcb,abm,hdb⟩
     ·exact .inl h
     ·exact .inr (.inl h)
     ·refine .inr (.inr ⟨b,hb,hcb,fun hmem=>?_,hdb⟩)
      rcases List.mem_append.1 hmem with h|h
      ·exact abm h
      ·simp at h;subst h;rw [hdst] at hdb;exact ht (gy hdb)
   ·rcases List.mem_append.1 hb with h|h
    ·exact hc.IU b h
    ·simp at h;subst h;exact ⟨ha,hca,hda⟩
   ·have h1:b∉born:=fun h=>abm (List.mem_append_left _ h)
    have h2:b≠a:=fun h=>abm (by simp [h])
    obtain ⟨q1,q2⟩:=hc.pend b d' z' hb hcb hdb h1 hzb
    exact ⟨q1,hoth d' z' (pb b) (fun e=>h2 (hc.Ur b a hb ha hcb hca hdb hda h1 hnb e)) q2⟩
   ·exact hc.Ur b b' hb hb' hcb hcb' hdb aIA (fun h=>abm (List.mem_append_left _ h)) (fun h=>aA3 (List.mem_append_left _ h)) he
  obtain ⟨σ',zn,F',g',k1,k2,k3,k4⟩:=ihl (fun b hb=>by
   obtain ⟨q1,q2,q3,q4⟩:=hal b (eX _ hb)
   refine ⟨q1,q2,q3,fun h=>?_⟩
   rcases List.mem_append.1 h with h|h
   ·exact q4 h
   ·simp at h;subst h;exact hnd.1 hb) hnd.2 hcore hstep
  refine ⟨σ',zn,F',g',by simpa using k1,k2,fun t ht=>?_,by rw [k4,iw]⟩
  have h1:t∉ou ins lD:=fun h=>ht (jl.2 (by obtain ⟨i,hi,hd⟩:=jl.1 h;exact ⟨i,eX _ hi,hd⟩))
  have h2:d≠t:=fun e=>ht (jl.2 ⟨a,by simp,by rw [hdst,e]⟩)
  rw [k3 t h1,dR]
  simp [h2]
end
section
variable {P:Program} {Hn H2:Hints} {comp:FuncId→Code→aH} {g g' g'':G} {σ σ' oJ:H} {w w' w'':World} {β β' β'':Nat→Option Nat} {lo lo':Lo} {fr fr' F F':List V} {A A':Act} {B0:Nat} {ro:Option Nat}
variable {sw:Nat→Prop} {ops:Array Oper} {ins:Nat→Ins} {cls ms:Nat→Nat} {f:Nat} {listed:Array Bool} {win born todo:List Nat} {Gr:List V} {pb:Nat→Nat} {g0:G} {β0:Nat→Option Nat} {σ0:H} {w0:World}
theorem Z5 {ih:Ih} {tl:List Ins} {out:Out} (hout:out≠.fail):∀ (chk:List Nat),(∀ i∈chk,(∃ d q,LD d q (ins i))∧(Ce (ins i)).isSome=true)→bW ih (chk.map (fun i=>(Ce (ins i)).getD (.op none .bad))++tl) F lo σ=out →
  bW ih tl F lo σ=out∧∀ i∈chk,∀ d q,LD d q (ins i)→nval (ins i) F lo σ=some (aO F d)
 |[],_,h=>⟨h,fun i hi=>by simp at hi⟩
 |i::is,hall,h=>by
  obtain ⟨⟨d,q,hni⟩,hsome⟩:=hall i (by simp)
  obtain ⟨c,hc⟩:=Option.isSome_iff_exists.1 hsome
  have hform:∃ gd t o,c=.chk gd t o:=by
   unfold Ce at hc
   split at hc
   ·cases hc;exact ⟨_,_,_,rfl⟩
   ·cases hc;exact ⟨_,_,_,rfl⟩
   ·cases hc
  obtain ⟨gd,t,o,rfl⟩:=hform
  simp only [List.map_cons,List.cons_append,hc,Option.getD_some,bW,AV] at h
  cases hk:iM gd t o F lo σ with
  |false=>rw [hk] at h;simp only [cond_false] at h;exact absurd h.symm hout
  |true =>
   rw [hk] at h
   simp only [cond_true] at h
   obtain ⟨h1,h2⟩:=Z5 hout is (fun k hk=>hall k (eX _ hk)) h
   refine ⟨h1,fun k hm d q hn=>?_⟩
   rcases List.mem_cons.1 hm with rfl|hm
   ·exact ad4 hn hc hk
   ·exact h2 k hm d q hn
theorem Nb {i:Ins} {ih:Ih} {is:List Ins} (h:∀ a b c,i≠.chk a b c):bW ih (i::is) Gr lo σ=xE (bW ih is) (jQ (yL ih) [] i Gr lo σ):=by
 cases i with
 |chk a b c=>exact absurd rfl (h a b c)
 |_=>rfl
theorem Xm {i:Ins} {d q:Nat} (h:LD d q i):∀ a b c,i≠.chk a b c:=by
 rintro a b c rfl;exact h
theorem Z7 {ih:Ih} {tl:List Ins} {out:Out} (hout:out≠.fail):∀ (pre:List Nat) {Gr:List V},(∀ i∈pre,∃ d q,(ins i).dst=some d∧LD d q (ins i))→J4 ins pre=true→bW ih (pre.map ins++tl) Gr lo σ=out →
  ∃ zn,bW ih tl zn lo σ=out∧zn.length=Gr.length∧(∀ t,t∉ou ins pre→aO zn t=aO Gr t)∧∀ i∈pre,∀ d,(ins i).dst=some d→∃ v,nval (ins i) zn lo σ=some v∧(d<zn.length→aO zn d=v)
 |[],Gr,_,_,h=>⟨Gr,h,rfl,fun _ _=>rfl,fun i hi=>by simp at hi⟩
 |i::is,Gr,hall,hok,h=>by
  obtain ⟨d,q,hd,hni⟩:=hall i (by simp)
  simp only [J4,au] at hok
  obtain ⟨⟨h1,h2⟩,h3⟩:=hok
  rw [List.map_cons,List.cons_append,Nb (Xm hni),TL hni] at h
  cases hv:nval (ins i) Gr lo σ with
  |none=>rw [hv] at h;exact absurd h.symm hout
  |some v =>
   rw [hv] at h
   obtain ⟨zn,k1,k2,k3,k4⟩:=Z7 hout is (fun k hk=>hall k (eX _ hk)) h3 h
   have hsub:∀ t,t∈ou ins is→t∈ou ins (i::is):=fun t ht=>by
    obtain ⟨k,hk,e⟩:=jl.1 ht
    exact jl.2 ⟨k,eX _ hk,e⟩
   refine ⟨zn,k1,by rw [k2,iw],fun t ht=>?_,fun k hm d' hd'=>?_⟩
   ·rw [k3 t (fun x=>ht (hsub t x)),dR]
    have:d≠t:=fun e=>ht (jl.2 ⟨i,by simp,by rw [hd,e]⟩)
    simp [this]
   ·rcases List.mem_cons.1 hm with rfl|hm
    ·rw [hd] at hd';cases hd'
     refine ⟨v,?_,fun hlt=>?_⟩
     ·rw [←hv]
      refine xK (fun t ht=>?_) lo σ
      have hn:=xq.1 h1 t ht
      rw [k3 t (fun x=>hn (hsub t x)),dR]
      have:d≠t:=fun e=>hn (jl.2 ⟨_,fF,by rw [hd,e]⟩)
      simp [this]
     ·have hn:=xq.1 h2 d (by simp [rdd,hd])
      rw [k2,iw] at hlt
      rw [k3 d hn,dR]
      simp [hlt]
    ·exact k4 k hm d' hd'
structure Cur (cls ms:Nat→Nat) (n:Nat) (aL lD:List Nat) (eff:Option Nat) (b0 jZ:List Nat) (rest:List iU):Prop where
 adI:∀ a∈lD,cls a=3∧a∉b0∧∀ e,eff=some e→(ms e).testBit a=true
 nodup:lD.Nodup
 Ci:∀ e,eff=some e→cls e=2∧e<n∧(∀ e'∈jZ,(ms e).testBit e'=true)∧∀ a∈aL,(ms e).testBit a=true→a∈b0++lD
 last:eff=none→rest=[]
structure Y5 (ins:Nat→Ins) (cls ms:Nat→Nat) (n:Nat) (aL:List Nat) (s:iU) (rest:List iU) (KL:List Nat) (lD:List Nat) (eff:Option Nat) (born jZ:List Nat):Prop where
 sv:∀ i∈KL,(∀ t∈rdd (ins i),t∉ou ins lD++(ou ins eff.toList++ou ins s.pre))∧(cls i=1→i∈s.chk)
 chk:∀ i∈s.chk,i∈KL∧(Ce (ins i)).isSome=true
 J4:J4 ins s.pre=true
 pre:∀ i∈s.pre,cls i<2∧∀ e,eff=some e→(ms i).testBit e=true
 cur:Cur cls ms n aL s.lD s.eff born (jZ++eff.toList) rest
theorem jL {n:Nat} {aL:List Nat} {s:iU} {rest:List iU} {lD:List Nat} {eff:Option Nat} {jZ:List Nat} (h:lX ins cls ms n aL (s::rest) win lD eff born jZ=true) :
  Y5 ins cls ms n aL s rest (qL ms win eff) lD eff born jZ∧lX ins cls ms n aL rest (qL ms win eff++s.pre) s.lD s.eff (born++s.lD) (jZ++eff.toList)=true:=by
 simp only [lX,au] at h
 obtain ⟨⟨⟨⟨⟨⟨⟨⟨h1,h2⟩,h3⟩,h4⟩,h5⟩,h6⟩,h7⟩,h8⟩,h9⟩:=h
 refine ⟨⟨fun i hi=>?_,fun i hi=>?_,h3,fun i hi=>?_,⟨fun a ha=>?_,wQ.1 h6,fun e he=>?_,fun he=>?_⟩⟩,h9⟩
 ·have:=jy.1 h1 i hi
  simp only [au,gu,Bool.not_eq_true',ng] at this
  refine ⟨xq.1 this.1,fun hc=>?_⟩
  rcases this.2 with h|h
  ·rw [hc] at h;simp at h
  ·exact h
 ·have:=jy.1 h2 i hi
  simp only [au,ng] at this
  exact this
 ·have:=jy.1 h4 i hi
  simp only [au] at this
  exact ⟨by have:=this.1;rwa [Nat.blt_eq] at this,fun e he=>Dw.1 this.2 e he⟩
 ·have:=jy.1 h5 a ha
  simp only [au,Bool.not_eq_true'] at this
  refine ⟨aJ this.1.1,fun hm=>?_,fun e he=>Dw.1 this.1.2 e he⟩
  rw [ng.2 hm] at this
  simp at this
 ·have:=Dw.1 h7 e he
  simp only [au] at this
  refine ⟨aJ this.1.1.1,by have:=this.1.1.2;rwa [Nat.blt_eq] at this,fun e' he'=>jy.1 this.1.2 e' he',fun a ha hb=>?_⟩
  have:=jy.1 this.2 a ha
  rw [hb] at this
  simpa [ng] using this
 ·rw [he] at h8
  simpa using h8
theorem yY {n:Nat} {aL lD:List Nat} {eff:Option Nat} {jZ:List Nat} (h:lX ins cls ms n aL [] win lD eff born jZ=true):eff=none∧∀ a∈aL,a∈born:=by
 simp only [lX,au] at h
 exact ⟨by simpa using h.1,fun a ha=>ng.1 (jy.1 h.2 a ha)⟩
theorem mQ {n:Nat} {aL:List Nat}:∀ (rest:List iU) {win lD born:List Nat} {eff:Option Nat} {jZ:List Nat},lX ins cls ms n aL rest win lD eff born jZ=true →
  ∀ j∈jE rest,cls j=2∧j<n∧∀ e∈jZ++eff.toList,(ms j).testBit e=true
 |[],_,_,_,_,_,_=>fun j hj=>by simp [jE] at hj
 |s::rest,win,lD,born,eff,jZ,h=>fun j hj=>by
  obtain ⟨hs,hr⟩:=jL h
  simp only [jE,List.flatMap_cons,List.mem_append] at hj
  rcases hj with hj|hj
  ·have he:s.eff=some j:=by simpa [Option.mem_toList] using hj
   obtain ⟨h1,h2,h3,_⟩:=hs.cur.Ci j he
   exact ⟨h1,h2,h3⟩
  ·obtain ⟨h1,h2,h3⟩:=mQ rest hr j hj
   exact ⟨h1,h2,fun e he=>h3 e (List.mem_append_left _ he)⟩
theorem MR {n:Nat} {aL:List Nat}:∀ (rest:List iU) {win lD born:List Nat} {eff:Option Nat} {jZ:List Nat},lX ins cls ms n aL rest win lD eff born jZ=true→(eff=none→rest=[]) →
  ∀ i∈pW rest,∃ e∈eff.toList++jE rest,(ms i).testBit e=true
 |[],_,_,_,_,_,_,_=>fun i hi=>by simp [pW] at hi
 |s::rest,win,lD,born,eff,jZ,h,hn=>fun i hi=>by
  obtain ⟨hs,hr⟩:=jL h
  simp only [pW,List.flatMap_cons,List.mem_append] at hi
  rcases hi with hi|hi
  ·cases he:eff with
   |none=>exact absurd (hn he) (by simp)
   |some e=>exact ⟨e,by simp,(hs.pre i hi).2 e he⟩
  ·obtain ⟨e,he,hb⟩:=MR rest hr hs.cur.last i hi
   refine ⟨e,?_,hb⟩
   simp only [jE,List.flatMap_cons,List.mem_append] at he ⊢
   exact .inr he
theorem enter {ih:Ih} {out:Out} {n:Nat} {aL KL lD b0 jZ:List Nat} {eff:Option Nat} {s:iU} {rest:List iU} (hout:out≠.fail) (hs:Stat P H2 f ops ins cls ms sw) (hso:Y5 ins cls ms n aL s rest KL lD eff b0 jZ)
  (hr:lX ins cls ms n aL rest (KL++s.pre) s.lD s.eff (b0++s.lD) (jZ++eff.toList)=true)
  (hc:Core P Hn ops ins cls ms B0 g0 β0 σ0 w0 b0 lo σ Gr listed A w g β F pb) (hrun:bW ih (flatten ins (s::rest)) Gr lo σ=out)
  (hsv:∀ i∈KL,i<ops.size∧cls i<2) (hid:∀ i∈KL,¬done listed i→cls i=0→∀ d,(ins i).dst=some d→∃ v,nval (ins i) Gr lo σ=some v∧(d<Gr.length→aO Gr d=v))
  (hpre:∀ i∈s.pre,¬done listed i) (hcov:∀ i,i<ops.size→cls i<2→¬done listed i→i∈KL∨i∈pW (s::rest))
  (hto:∀ e∈jE (s::rest),¬done listed e) (htc:∀ e,e<ops.size→cls e=2→¬done listed e→e∈jE (s::rest)) (hn:n=ops.size) :
  ∃ zn,Inv P Hn ops ins cls ms B0 g0 β0 σ0 w0 (KL++s.pre) b0 (s.eff.toList++jE rest) lo σ zn listed A w g β F pb ∧
   bW ih (s.lD.map ins++(s.eff.toList.map ins++flatten ins rest)) zn lo σ=out∧∀ i,i<ops.size→cls i<2→¬done listed i→i∈KL++s.pre∨i∈pW rest:=by
 have hni:∀ i,i<ops.size→cls i<2→∃ d q,(ins i).dst=some d∧LD d q (ins i):=fun i h1 h2=>by
  obtain ⟨d,hd,hi⟩:=hs.low i h1 h2;exact ⟨d,_,hd,hi⟩
 have Js:∀ i∈s.pre,i<ops.size∧cls i<2:=fun i hi=>by
  have:=(hso.pre i hi).1
  exact ⟨hs.Jc i (by omega),this⟩
 have hsplit:flatten ins (s::rest)=s.chk.map (fun i=>(Ce (ins i)).getD (.op none .bad))++(s.pre.map ins++(s.lD.map ins++(s.eff.toList.map ins++flatten ins rest))):=by
  simp [flatten,U6]
 rw [hsplit] at hrun
 obtain ⟨hrun1,zZ⟩:=Z5 hout s.chk (fun i hi=>by
  obtain ⟨h1,h2⟩:=hso.chk i hi
  obtain ⟨h3,h4⟩:=hsv i h1
  obtain ⟨d,q,_,h5⟩:=hni i h3 h4
  exact ⟨⟨d,q,h5⟩,h2⟩) hrun
 obtain ⟨zn,k1,k2,k3,k4⟩:=Z7 hout s.pre (fun i hi=>hni i (Js i hi).1 (Js i hi).2) hso.J4 hrun1
 have arp:∀ i,i<ops.size→cls i<2→¬done listed i→i∈KL++s.pre∨i∈pW rest:=fun i h1 h2 h3=>by
  rcases hcov i h1 h2 h3 with h|h
  ·exact .inl (List.mem_append_left _ h)
  ·simp only [pW,List.flatMap_cons,List.mem_append] at h
   rcases h with h|h
   ·exact .inl (List.mem_append_right _ h)
   ·exact .inr h
 have heff:jE (s::rest)=s.eff.toList++jE rest:=by simp [jE]
 refine ⟨zn,⟨⟨hc.size,hc.closed,hc.sc,hc.stp,by rw [k2];exact hc.len,fun t=>?_,hc.IU,hc.pend,hc.Ur⟩,fun i hi hnd d hd=>?_,fun i hi=>?_,fun i h1 h2 h3=>?_,fun e he=>?_,fun e h1 h2 h3=>?_⟩,k1,arp⟩
 ·by_cases ht:t∈ou ins s.pre
  ·obtain ⟨i,hi,hd⟩:=jl.1 ht
   exact .inr (.inl ⟨i,(Js i hi).1,(Js i hi).2,hpre i hi,hd⟩)
  ·rw [k3 t ht];exact hc.agr t
 ·rcases List.mem_append.1 hi with hi|hi
  ·obtain ⟨h1,h2⟩:=hsv i hi
   obtain ⟨h3,h4⟩:=hso.sv i hi
   have hsame:Same (ins i).slots zn Gr:=fun t ht=>k3 t fun hx=>h3 t (by unfold rdd;rw [hd];simp [ht]) (by simp [hx])
   have aAQ:aO zn d=aO Gr d:=k3 d fun hx=>h3 d (by unfold rdd;rw [hd];simp) (by simp [hx])
   by_cases hc1:cls i=1
   ·obtain ⟨d',hd',hn'⟩:=hs.low i h1 h2
    rw [hd] at hd';cases hd'
    exact ⟨aO Gr d,by rw [xK hsame];exact zZ i (h4 hc1) d _ hn',fun _=>aAQ⟩
   ·obtain ⟨v,hv,hl⟩:=hid i hi hnd (by omega) d hd
    exact ⟨v,by rw [xK hsame];exact hv,fun h=>by rw [aAQ];exact hl (by omega)⟩
  ·exact k4 i hi d hd
 ·rcases List.mem_append.1 hi with hi|hi
  ·exact hsv i hi
  ·exact Js i hi
 ·rcases arp i h1 h2 h3 with h|h
  ·exact .inl h
  ·exact .inr (MR rest hr hso.cur.last i h)
 ·rw [←heff] at he
  refine ⟨?_,?_,hto e he⟩
  ·rw [heff,List.mem_append] at he
   rcases he with he|he
   ·have:=(hso.cur.Ci e (by simpa [Option.mem_toList] using he)).2.1;omega
   ·have:=(mQ rest hr e he).2.1;omega
  ·rw [heff,List.mem_append] at he
   rcases he with he|he
   ·exact (hso.cur.Ci e (by simpa [Option.mem_toList] using he)).1
   ·exact (mQ rest hr e he).1
 ·rw [←heff];exact htc e h1 h2 h3
end
end Go.Vx
