/- A part of the proof of TopLocks. -/
import Derived.RangeFuncRecord
import Derived.Test.YtbbcoelimmpbaaaGreatDoorVac
set_option linter.all false
set_option linter.unusedVariables false
set_option linter.unusedSimpArgs false
set_option maxRecDepth 1000000
noncomputable section
open Go Go.RowKit
namespace Go.Vx
section
variable {P:Program} {Hn:Hints} {g g' g'':G} {σ σ' oJ:H} {w w' w'':World} {β β' β'':Nat→Option Nat} {lo lo':Lo} {fr fr':List V} {A A':Act} {B0:Nat}
theorem U9 {b:Frame} {a:Act} {k:List Item} {cs:List Frame} {c:Code}:Go.step P (lone (b.atR a (.code (.scope c)::k)) cs w)=.next (lone (b.atR a (.code c::.inScope c::k)) cs w) :=
 step_lone_go (by simp [stepG,stepG.exec,Frame.atR])
theorem LX {b:Frame} {a:Act} {k:List Item} {cs:List Frame} {c:Code}:Go.step P (lone (b.atR a (.inScope c::k)) cs w)=.next (lone (b.atR a k) cs w) :=
 step_lone_go (by simp [stepG,stepG.exec,Frame.atR])
def IB (F:Fence) (n:Nat) (P:Program) (c rest:Code) (Q:Exit→Act→World→Prop) (a:Act) (w:World):Prop :=
 ∀ (b:Frame) (k:List Item) (cs:List Frame),b.roundOf=F.round→F.fn b.fn→F.room (cs.length+1+n) →
  ∃ e a' w',Q e a' w'∧ArrivesIn (Machine.fenced P F) P (lone (b.atR a (.code rest::.inScope c::k)) cs w) b k cs e a' w'
def O5 (F:Fence) (n:Nat) (P:Program) (c:Code) (Q:Exit→Act→World→Prop):Exit→Act→World→Prop
 |.goto l,a,w=>match Go.findLabel c l with|some r=>IB F n P c r Q a w|none=>Q (.goto l) a w
 |e,a,w=>Q e a w
theorem Qr {F:Fence} {n:Nat} {c rest:Code} {Q:Exit→Act→World→Prop} {a:Act} (h:rest.wpIn F n P (O5 F n P c Q) a w):IB F n P c rest Q a w:=by
 intro b k cs hro hb hr
 obtain ⟨e,a₁,w₁,hq,harr⟩:=h b (.inScope c::k) cs hro hb hr
 cases e with
 |normal=>exact ⟨.normal,a₁,w₁,hq,StepsIn.trans harr (.one (fenced_calm hb hr rfl) LX)⟩
 |exit id =>
  have hx:exitTo id (.inScope c::k)=exitTo id k:=by simp [exitTo]
  exact ⟨.exit id,a₁,w₁,hq,fun k' hk=>harr.1 k' (by rw [hx];exact hk),fun hr' hk=>harr.2 hr' (by rw [hx];exact hk)⟩
 |goto l =>
  cases hf:Go.findLabel c l with
  |some r =>
   simp only [O5,hf] at hq
   have hg:gotoIn l (.inScope c::k)=some (.code r::.inScope c::k):=by simp [gotoIn,hf]
   obtain ⟨e₂,a₂,w₂,hq₂,harr₂⟩:=hq b k cs hro hb hr
   exact ⟨e₂,a₂,w₂,hq₂,.of_steps (harr.1 _ hg) harr₂⟩
  |none =>
   simp only [O5,hf] at hq
   have hx:gotoIn l (.inScope c::k)=gotoIn l k:=by simp [gotoIn,hf]
   exact ⟨.goto l,a₁,w₁,hq,fun k' hk=>harr.1 k' (by rw [hx];exact hk),fun hr' hk=>harr.2 hr' (by rw [hx];exact hk)⟩
 |ret=>exact ⟨_,a₁,w₁,hq,harr⟩
 |panic ch=>exact ⟨_,a₁,w₁,hq,harr⟩
 |outgrown=>exact ⟨_,a₁,w₁,hq,harr⟩
theorem YW {F:Fence} {n:Nat} {c:Code} {Q:Exit→Act→World→Prop} {a:Act} (h:IB F n P c c Q a w):(Code.scope c).wpIn F n P Q a w:=by
 intro b k cs hro hb hr
 obtain ⟨e,a',w',hq,harr⟩:=h b k cs hro hb hr
 exact ⟨e,a',w',hq,.of_steps (.one (fenced_calm hb hr rfl) U9) harr⟩
theorem Jl (f:Nat):∀ (c:Code) (l:Nat),findLabel (aQ P Hn f c) l=(Go.findLabel c l).map (aQ P Hn f):=by
 intro c
 induction c with
 |seq a b iha ihb =>
  intro l
  simp only [aQ,findLabel,Go.findLabel,iha,ihb]
  cases Go.findLabel a l<;>simp [aQ]
 |label l' =>
  intro l
  simp only [aQ,findLabel,Go.findLabel]
  by_cases h:l'=l
  ·subst h;simp [aQ]
  ·simp [DZ h,h]
 |region id ops d=>intro l;cases d<;>simp [aQ,findLabel,Go.findLabel]
 |rangeFunc g ps a b _ _ =>
  intro l
  simp only [aQ,Go.findLabel]
  split<;>simp [findLabel]
 |_=>intro l;simp [aQ,findLabel,Go.findLabel]
theorem WI:∀ {c r:Code} {l:Nat},flat c=true→Go.findLabel c l=some r→flat r=true:=by
 intro c
 induction c with
 |seq a b iha ihb =>
  intro r l h e
  simp [flat] at h
  simp only [Go.findLabel] at e
  cases ha:Go.findLabel a l with
  |some r'=>rw [ha] at e;simp at e;subst e;simp [flat,iha h.1 ha,h.2]
  |none=>rw [ha] at e;exact ihb h.2 e
 |label l'=>intro r l h e;simp [Go.findLabel] at e;rw [←e.2];rfl
 |_=>intro r l h e;simp [Go.findLabel] at e
def Y4 (P:Program) (Hn:Hints) (vc vr:aH) (fr:List V) (lo:Lo) (σ:H) (out:Out):Prop :=
 ∀ (f:FuncId) (c r:Code) (ro:Option Nat) (B0:Nat) (g:G) (β:Nat→Option Nat) (A:Act) (w:World),aQ P Hn f c=vc→aQ P Hn f r=vr→(ro.isSome=true→flat c=true)→(ro.isSome=true→flat r=true) →
  Sc P (aQ P Hn) B0 g β σ lo fr A w→out≠.fail→IB (Fw ro) 0 P c r (jR P (aQ P Hn) B0 g β σ w out) A w
theorem Sc.call (h:Sc P (aQ P Hn) B0 g β σ lo fr A w) (hw:Rw P (aQ P Hn) g' σ' w') (hs:Stp g (fun _=>none) σ w g' (fun _=>none) σ' w'):Sc P (aQ P Hn) B0 g' β σ' lo fr A w'∧Stp g β σ w g' β σ' w':=by
 have hbk:∀ k,k<w.heap.size→¬Live g σ k→((∀ o,g.φ k o=none)∨g.pin k)→w'.heap[k]?=w.heap[k]?:=fun k hk hl hp=>hs.nI.block k hk hl (by simp [Cj]) hp
 have hst:Stp g β σ w g' β σ' w':=⟨hs.le,⟨hs.nI.os,hs.nI.tape,hs.nI.output,hs.nI.size,fun k hk hl _ hp=>hbk k hk hl hp⟩,hs.live,fun t b hb _=>⟨t,hb⟩,hs.phi⟩
 refine ⟨⟨⟨h.s.f.mono hs.le,h.s.b.same hs.le hs.live (fun b hb hp hl o=>hs.phi b hb hp hl o) (fun t b hb=>?_),hw⟩,h.step hst rfl,Nat.le_trans h.le hst.nI.size⟩,hst⟩
 obtain ⟨cs,c,ty,_,h5,_⟩:=h.s.b.boxes t b hb
 exact hbk b (fG.1 h5).1 (h.s.b.apart t b hb).1 (.inl (h.s.b.apart t b hb).2)
end
section
variable {P:Program} {Hn:Hints} {comp:FuncId→Code→aH} {g g' g'':G} {σ σ' oJ:H} {w w' w'':World} {β β' β'':Nat→Option Nat} {lo lo':Lo} {fr fr':List V} {A A':Act} {B0:Nat} {ro:Option Nat}
def Form (v v':V):Prop:=(∃ cs cs',v=.agg cs∧v'=.agg cs'∧cs'.length=cs.length)∨((∀ cs,v≠.agg cs)∧∀ cs,v'≠.agg cs)
theorem Form.refl (v:V):Form v v:=by
 cases v<;>first|exact .inl ⟨_,_,rfl,rfl,rfl⟩|exact .inr ⟨by simp,by simp⟩
theorem Form.cells {v v':V} (h:Form v v'):v'.cells.length=v.cells.length:=by
 rcases h with ⟨cs,cs',rfl,rfl,h⟩|⟨h1,h2⟩
 ·exact h
 ·have:∀ z:V,(∀ cs,z≠.agg cs)→z.cells=[z]:=by intro z hz;cases z<;>first|rfl|exact absurd rfl (hz _)
  rw [this _ h1,this _ h2];rfl
structure Fz (P:Program) (comp:FuncId→Code→aH) (g:G) (σ:H) (w:World) (vs:List V) (xs:List Value) (vs':List V) (σ':H) (g':G):Prop where
 le:g.le g'
 rv:kK g' vs' xs
 rw:Rw P comp g' σ' w
 live:∀ b,Live g' σ' b→Live g σ b
 phi:∀ b,(∀ o,g.φ b o=none)→¬Live g σ b→∀ o,g'.φ b o=none
 form:vs'.length=vs.length∧∀ (i:Nat) v v',vs[i]?=some v→vs'[i]?=some v'→Form v v'
theorem Fz.same {vs:List V} {xs:List Value} (h:kK g vs xs) (hw:Rw P comp g σ w):Fz P comp g σ w vs xs vs σ g :=
 ⟨.refl g,h,hw,fun _ h=>h,fun _ h _=>h,rfl,fun i v v' a b=>by rw [a] at b;cases b;exact .refl v⟩
theorem Fz.cons {v v':V} {x:Value} {vs vs':List V} {xs:List Value} (hv:Rv g' v' x) (hf:Form v v') (hle:g.le g') (hl:∀ b,Live g' σ' b→Live g σ b) (hp:∀ b,(∀ o,g.φ b o=none)→¬Live g σ b→∀ o,g'.φ b o=none)
  (h:Fz P comp g' σ' w vs xs vs' oJ g''):Fz P comp g σ w (v::vs) (x::xs) (v'::vs') oJ g'' where
 le:=hle.trans h.le
 rv:=.cons (hv.mono h.le) h.rv
 rw:=h.rw
 live b hb:=hl b (h.live b hb)
 phi b h1 h2:=h.phi b (hp b h1 h2) (fun hx=>h2 (hl b hx))
 form:=⟨by simp [h.form.1],fun i a b ha hb=>by
  cases i with
  |zero=>simp at ha hb;subst ha hb;exact hf
  |succ i=>exact h.form.2 i a b (by simpa using ha) (by simpa using hb)⟩
def vY (x:V) (e:List Value):Value:=match x with|.agg _=>.agg e.toArray|_=>e.headD Go.undef
theorem Wn {x:V} {e:List Value} (h:kK g x.cells e):Rv g x (vY x e):=by
 have one:∀ z:V,z.cells=[z]→x=z→vY x e=e.headD Go.undef→Rv g x (vY x e):=by
  intro z hz hx he
  subst hx
  rw [hz] at h
  obtain ⟨y,ys,rfl,hy,hs⟩:=h.y5
  have:=hs.KW;subst this
  rw [he];exact hy
 cases x<;>first|exact one _ rfl rfl rfl|exact .JJ (by simpa [V.cells] using h)
theorem Ox {x x':V} {e:List Value} (hl:x.cells.length=e.length) (hf:Form x x') (h:Rv g x' (vY x e)):kK g x'.cells e:=by
 rcases hf with ⟨cs,cs',rfl,rfl,hlen⟩|⟨h1,h2⟩
 ·obtain ⟨A,hA,hs⟩:=h.Ic
  simp [vY] at hA;subst hA
  simpa [V.cells] using hs
 ·have QA:∀ z:V,(∀ cs,z≠.agg cs)→z.cells=[z]:=by intro z hz;cases z<;>first|rfl|exact absurd rfl (hz _)
  rw [QA _ h1] at hl
  rw [QA _ h2]
  have hev:vY x e=e.headD Go.undef:=by cases x<;>first|rfl|exact absurd rfl (h1 _)
  rw [hev] at h
  cases e with
  |nil=>simp at hl
  |cons y ys =>
   cases ys with
   |nil=>exact .cons h (.nil g)
   |cons _ _=>simp at hl
theorem aex {len c':Nat}:∀ (cap:Option Nat),(match cap with|some c=>Nat.beq c len|none=>false)=true→(∀ c,cap=some c→c'=c)→c'=len
 |none,he,_=>by cases he
 |some c,he,hcap=>by have h1:=aJ he;have h2:=hcap c rfl;omega
theorem ax4:∀ (n:Nat) (vs:List V) (σ:H) (vs':List V) (σ':H) (g:G) (xs:List Value),kK g vs xs→Rw P comp g σ w→dW n vs σ=(vs',σ')→∃ g',Fz P comp g σ w vs xs vs' σ' g':=by
 intro n
 induction n with
 |zero =>
  intro vs σ vs' σ' g xs h hw e
  simp only [dW,Prod.mk.injEq] at e
  obtain ⟨rfl,rfl⟩:=e
  exact ⟨g,Fz.same h hw⟩
 |succ n ih =>
  intro vs σ vs' σ' g xs h hw e
  cases vs with
  |nil =>
   simp only [dW,Prod.mk.injEq] at e
   obtain ⟨rfl,rfl⟩:=e
   exact ⟨g,Fz.same h hw⟩
  |cons v vs =>
   obtain ⟨x,ys,rfl,hx,hs⟩:=h.y5
   have keep:∀ q,lM v (dW n vs σ)=q→q=(vs',σ')→∃ g',Fz P comp g σ w (v::vs) (x::ys) vs' σ' g':=by
    intro q hq hqe
    subst hqe
    cases hr:dW n vs σ with
    |mk r1 h1 =>
     rw [hr] at hq
     simp only [lM,Prod.mk.injEq] at hq
     obtain ⟨rfl,rfl⟩:=hq
     obtain ⟨g',hg'⟩:=ih vs σ r1 h1 g ys hs hw hr
     exact ⟨g',Fz.cons hx (.refl v) (.refl g) (fun _ h=>h) (fun _ h _=>h) hg'⟩
   cases v with
   |agg cs =>
    obtain ⟨A,rfl,hA⟩:=hx.Ic
    simp only [dW] at e
    cases hr:dW n cs σ with
    |mk c1 h1 =>
     rw [hr] at e
     dsimp only at e
     cases hr2:dW n vs h1 with
     |mk r2 h2 =>
      rw [hr2] at e
      simp only [lM,Prod.mk.injEq] at e
      obtain ⟨rfl,rfl⟩:=e
      obtain ⟨g1,k1⟩:=ih cs σ c1 h1 g A.toList hA hw hr
      obtain ⟨g2,k2⟩:=ih vs h1 r2 h2 g1 ys (hs.mono k1.le) k1.rw hr2
      exact ⟨g2,Fz.cons (.JJ k1.rv) (.inl ⟨_,_,rfl,rfl,k1.form.1⟩) k1.le k1.live k1.phi k2⟩
   |tuple cs =>
    obtain ⟨A,rfl,hA⟩:=hx.NU
    simp only [dW] at e
    cases hr:dW n cs σ with
    |mk c1 h1 =>
     rw [hr] at e
     dsimp only at e
     cases hr2:dW n vs h1 with
     |mk r2 h2 =>
      rw [hr2] at e
      simp only [lM,Prod.mk.injEq] at e
      obtain ⟨rfl,rfl⟩:=e
      obtain ⟨g1,k1⟩:=ih cs σ c1 h1 g A.toList hA hw hr
      obtain ⟨g2,k2⟩:=ih vs h1 r2 h2 g1 ys (hs.mono k1.le) k1.rw hr2
      exact ⟨g2,Fz.cons (.mkTuple k1.rv) (.inr ⟨by simp,by simp⟩) k1.le k1.live k1.phi k2⟩
   |hsl id off len cap sz =>
    simp only [dW] at e
    cases hget:σ.get id with
    |none=>rw [hget] at e;exact keep _ rfl e
    |some ob =>
     rw [hget] at e
     cases ob with
     |map es=>exact keep _ rfl e
     |loop l=>exact keep _ rfl e
     |cells cs =>
      dsimp only at e
      cases hch:chunk sz len (skip off cs) with
      |none=>rw [hch] at e;exact keep _ rfl e
      |some el =>
       rw [hch] at e
       dsimp only at e
       cases hr:dW n el (σ.del id) with
       |mk c1 h1 =>
        rw [hr] at e
        dsimp only at e
        cases hr2:dW n vs h1 with
        |mk r2 h2 =>
         rw [hr2] at e
         simp only [lM,Prod.mk.injEq] at e
         obtain ⟨rfl,rfl⟩:=e
         have hgc:getCells σ id=some cs:=by simp [getCells,hget]
         obtain ⟨b,m,C,ty,hρ,hb,hCs,hcl,hcv,hφ,hlive⟩:=hw.cells hgc
         cases hx with
         |@hsl _ b' m' _ _ _ c' _ aI8 hlc hcap hmn =>
         obtain ⟨rfl,rfl⟩:=Prod.mk.inj (gy (hρ.symm.trans aI8))
         have hnd:=yQ hw (by simp [hget]) hρ
         have hle0:=G.BA (g:=g) (b:=b) C hφ
         have hw1:Rw P comp (g.freeze b C) (σ.del id) w:=(hw.del id).freeze hb hnd hφ
         have aA0:∀ k,Live (g.freeze b C) (σ.del id) k→Live g σ k:=fun k hk=>Live.yS (Live.freeze hk)
         have aIT:∀ k,(∀ o,g.φ k o=none)→¬Live g σ k→∀ o,(g.freeze b C).φ k o=none:=fun k h1 h2 o=>by
          rw [G.jJ _ _ (by intro e;subst e;exact h2 hlive)];exact h1 o
         obtain ⟨hel,hlen,hcells⟩:=Ja hch
         rw [rV] at hlen hcells
         let E:Nat→List Value:=fun i=>(List.range sz).map fun j=>(C[off+(i*sz+j)]?).getD Go.undef
         have hcs:∀ (j:Nat) c,(cs.drop off)[j]?=some c→∃ z,C[off+j]?=some z∧Rv g c z:=fun j c hc=>by
          rw [List.getElem?_drop] at hc;exact hcv _ _ hc
         have hEi:∀ i x,el[i]?=some x→kK (g.freeze b C) x.cells (E i):=by
          intro i x hx
          have hi:i<len:=by have:=(iW.1 hx).1;omega
          have hxc:=hcells i x hx
          have hfit:i*sz+sz≤(cs.drop off).length:=by
           have:(i+1)*sz≤len*sz:=Nat.mul_le_mul_right _ hi
           rw [Nat.succ_mul] at this;omega
          refine ⟨by rw [hxc];simp [E] at hfit ⊢;omega,fun j c z hc hz=>?_⟩
          rw [hxc] at hc
          simp only [List.getElem?_take,List.getElem?_drop] at hc
          split at hc
          ·rename_i hj
           simp [E,hj] at hz
           obtain ⟨y,hy,hyr⟩:=hcs (i*sz+j) c (by rw [List.getElem?_drop];exact hc)
           rw [hy] at hz
           simp at hz;subst hz
           exact hyr.mono hle0
          ·cases hc
         have hEv:kK (g.freeze b C) el (el.zipIdx.map fun p=>vY p.1 (E p.2)):=by
          refine ⟨by simp,fun i x z hx hz=>?_⟩
          simp [hx] at hz
          subst hz
          exact Wn (hEi i x hx)
         obtain ⟨g1,k1⟩:=ih el (σ.del id) c1 h1 (g.freeze b C) _ hEv hw1 hr
         obtain ⟨g2,k2⟩:=ih vs h1 r2 h2 g1 ys (hs.mono (hle0.trans k1.le)) k1.rw hr2
         have aAM:c1.length=len:=by rw [k1.form.1,hel]
         have hcell:∀ (i:Nat) x (j:Nat) c,c1[i]?=some x→x.cells[j]?=some c→∃ z,C[off+i*sz+j]?=some z∧Rv g1 c z:=by
          intro i x' j c hx' hj
          have hi:i<el.length:=by have:=(iW.1 hx').1;omega
          have hx0:el[i]?=some el[i]:=fM hi
          have hform:=k1.form.2 i _ _ hx0 hx'
          have Lc:=k1.rv.2 i x' (vY el[i] (E i)) hx' (by simp [hx0])
          have hback:=Ox (hEi i _ hx0).1 hform Lc
          obtain ⟨z,hz,yK⟩:=hback.get hj
          have hq1:j<sz:=by have:=(iW.1 hz).1;simpa [E] using this
          have hze:(C[off+(i*sz+j)]?).getD Go.undef=z:=by simpa [E,hq1] using hz
          have hfit:i*sz+j<(cs.drop off).length:=by
           have:(i+1)*sz≤len*sz:=Nat.mul_le_mul_right _ (by omega)
           rw [Nat.succ_mul] at this;omega
          obtain ⟨y,hy,_⟩:=hcs (i*sz+j) _ (fM hfit)
          rw [hy] at hze
          simp at hze
          subst hze
          exact ⟨y,by rw [Nat.add_assoc];exact hy,yK⟩
         have hk:∀ x∈c1,x.cells.length=sz:=by
          intro x hxm
          obtain ⟨i,hi⟩:=List.mem_iff_getElem?.1 hxm
          have hil:i<el.length:=by have:=(iW.1 hi).1;omega
          have hx0:el[i]?=some el[i]:=fM hil
          rw [(k1.form.2 i _ _ hx0 hi).cells,(hEi i _ hx0).1]
          simp [E]
         have aI9:∀ o v,C[o]?=some v→g1.φ b o=some v:=fun o v hv=>k1.le.φ b o v (by rw [G.wu];exact hv)
         have hlist:∀ ex:Bool,(ex=true→c'=len)→Rv g1 (.list c1 ex) (.slice (some ⟨b,off,none⟩) len c'):=by
          intro ex hex
          have:=Rv.list (g:=g1) (xs:=c1) (ex:=ex) (b:=b) (o:=off) (cap:=c') sz (fun i j=>(C[off+i*sz+j]?).getD Go.undef) hk (by omega)
           (fun he=>by rw [aAM];exact hex he) (fun _ _ _ h=>((k1.le.pin b).2 h).2 rfl)
           (fun i x j c hx hj=>by
            obtain ⟨z,hz,_⟩:=hcell i x j c hx hj
            rw [hz];exact aI9 _ _ hz)
           (fun i x j c hx hj=>by
            obtain ⟨z,hz,yK⟩:=hcell i x j c hx hj
            rw [hz];exact yK)
          rw [aAM] at this
          exact this
         exact ⟨g2,Fz.cons (hlist _ (fun he=>aex cap he hcap)) (.inr ⟨by simp,by simp⟩) (hle0.trans k1.le) (fun k hk=>aA0 k (k1.live k hk)) (fun k h1 h2=>k1.phi k (aIT k h1 h2) (fun hx=>h2 (aA0 k hx))) k2⟩
   |_=>exact keep _ rfl (by simpa only [dW] using e)
theorem OI {v v':V} {x:Value} (h:Rv g v x) (hw:Rw P comp g σ w) (e:vW v σ=(v',σ')):∃ g',g.le g'∧Rv g' v' x∧Rw P comp g' σ' w∧(∀ b,Live g' σ' b→Live g σ b)∧(∀ b,(∀ o,g.φ b o=none)→¬Live g σ b→∀ o,g'.φ b o=none):=by
 unfold vW at e
 cases hr:dW 1000000 [v] σ with
 |mk r h1 =>
  rw [hr] at e
  obtain ⟨g',k⟩:=ax4 1000000 [v] σ r h1 g [x] (.cons h (.nil g)) hw hr
  cases r with
  |nil=>have:=k.form.1;simp at this
  |cons y ys =>
   simp only [Prod.mk.injEq] at e
   obtain ⟨rfl,rfl⟩:=e
   exact ⟨g',k.le,k.rv.2 0 _ _ rfl rfl,k.rw,k.live,k.phi⟩
theorem KD {d:Nat} {o:Oper} {t el:TypeId} {l c:Operand} {l' c':aF} {s:Nat} {z:V} (hu:P.underlying t=some (.slice el)) (hs:Lj P el=some s) (hz:mg P el=some z) (hl:bQ l=some l') (hc:bQ c=some c') (ho:o.op=.makeSlice t l c) :
  Sound P comp d (.kQ z.cells l' c') o:=by
 intro g β σ lo fr A w v lo' σ' h e
 simp only [aZ,jG] at e
 cases hq:gW z.cells l' c' fr lo σ with
 |fail=>rw [hq] at e;cases e
 |ok v1 lo1 σ1 =>
  rw [hq] at e
  dsimp only at e
  cases hf:vW v1 σ1 with
  |mk v2 σ2 =>
   rw [hf] at e
   cases e
   obtain ⟨x,w',g1,h1,h2,h3,h4,h5,h6,h7,h8⟩:=CJ (comp:=comp) (d:=d) hu hs hz hl hc ho g β σ lo fr A w v1 lo' σ1 h hq
   have hnl:∀ t o,v1≠.bf t o:=by
    intro t o hv
    subst hv
    unfold gW at hq
    simp only [dw] at hq
    repeat' split at hq
    all_goals cases hq
   obtain ⟨g2,k1,k2,k3,k4,k5⟩:=OI (h3.rv hnl) h4 hf
   refine ⟨x,w',g2,h1,h2.trans k1,.dP k2,k3,⟨fun t b hb=>?_,fun t b hb=>?_,h5.inj⟩,h6,fun b hb hlt=>h7 b (k4 b hb) hlt,fun b hlt hp hl=>?_⟩
   ·obtain ⟨cs,cc,ty,q1,q2,q3,q4⟩:=h5.boxes t b hb
    exact ⟨cs,cc,ty,q1,q2,q3,fun j x hx=>let ⟨v,a,r⟩:=q4 j x hx;⟨v,a,r.mono k1⟩⟩
   ·obtain ⟨q1,q2⟩:=h5.apart t b hb
    exact ⟨fun hl=>q1 (k4 b hl),k5 b q2 q1⟩
   ·exact k5 b (h8 b hlt hp hl) (fun hl2=>hl (h7 b hl2 hlt))
theorem VO {x y:aF} {sz:Nat} {fr:List V} {lo lo':Lo} {h h':H} {v:V} (e:aU sz x y fr lo h=.ok v lo' h'):∀ t o,v≠.bf t o:=by
 intro t o hv
 subst hv
 unfold aU at e
 cases h1:gU (y.ev fr) with
 |none=>rw [h1] at e;cases e
 |some n =>
  rw [h1] at e
  dsimp only at e
  cases h2:dM h sz n (y.ev fr) with
  |none=>rw [h2] at e;cases e
  |some new =>
   rw [h2] at e
   dsimp only at e
   cases h3:dO new with
   |false=>rw [h3] at e;cases e
   |true =>
    rw [h3] at e
    simp only [cond_true] at e
    cases h4:wM h sz (x.ev fr) n new with
    |none=>rw [h4] at e;cases e
    |some p =>
     rw [h4] at e
     obtain ⟨u,hh⟩:=p
     have hu:u=.bf t o:=by cases e;rfl
     subst hu
     unfold wM at h4
     cases h5:Nat.beq n 0 with
     |true =>
      rw [h5] at h4
      simp only [cond_true] at h4
      cases h6:jg (x.ev fr) with
      |false=>rw [h6] at h4;cases h4
      |true =>
       rw [h6] at h4
       simp only [cond_true,aC,Prod.mk.injEq] at h4
       rw [h4.1] at h6;cases h6
     |false =>
      rw [h5] at h4
      simp only [cond_false] at h4
      have fresh:∀ (g:H) (n sz:Nat) (o2:Option (List V)) (nw:List V),jA g n sz o2 nw≠some (.bf t o,hh):=by
       intro g n sz o2 nw hq
       unfold jA at hq
       cases o2 with
       |none=>cases hq
       |some old =>
        dsimp only at hq
        cases hb:Nat.ble n 16777216<;>rw [hb] at hq<;>cases hq
      cases hx:x.ev fr with
      |aj=>rw [hx] at h4;exact fresh _ _ _ _ _ h4
      |list xs ex =>
       rw [hx] at h4
       cases ex with
       |false=>cases h4
       |true=>exact fresh _ _ _ _ _ h4
      |hsl id off len cap sz' =>
       rw [hx] at h4
       dsimp only at h4
       cases hb:Nat.beq sz sz' with
       |false=>rw [hb] at h4;cases h4
       |true =>
        rw [hb] at h4
        simp only [cond_true] at h4
        unfold zO at h4
        cases cap with
        |some c =>
         dsimp only at h4
         cases hc:Nat.ble (len+n) c with
         |true =>
          rw [hc] at h4
          simp only [cond_true,Y7] at h4
          cases hg:getCells h id with
          |none=>rw [hg] at h4;cases h4
          |some cs =>
           rw [hg] at h4
           dsimp only at h4
           cases hs:splice (off+len*sz) cs new<;>rw [hs] at h4<;>cases h4
         |false=>rw [hc] at h4;exact fresh _ _ _ _ _ h4
        |none =>
         dsimp only at h4
         cases ho:Nat.beq off 0 with
         |true=>rw [ho] at h4;exact fresh _ _ _ _ _ h4
         |false=>rw [ho] at h4;cases h4
      |_=>rw [hx] at h4;cases h4
theorem ac5 {d:Nat} {o:Oper} {op opF:l7} (hF:∀ fr lo h v lo' h',aZ d opF fr lo h=.ok v lo' h'→∃ v1 h1,aZ d op fr lo h=.ok v1 lo' h1∧vW v1 h1=(v,h')∧∀ t o,v1≠.bf t o) (hs:Sound P comp d op o):Sound P comp d opF o:=by
 intro g β σ lo fr A w v lo' σ' h e
 obtain ⟨v1,σ1,hq,hf,hnl⟩:=hF _ _ _ _ _ _ e
 obtain ⟨x,w',g1,h1,h2,h3,h4,h5,h6,h7,h8⟩:=hs g β σ lo fr A w v1 lo' σ1 h hq
 obtain ⟨g2,k1,k2,k3,k4,k5⟩:=OI (h3.rv hnl) h4 hf
 refine ⟨x,w',g2,h1,h2.trans k1,.dP k2,k3,⟨fun t b hb=>?_,fun t b hb=>?_,h5.inj⟩,h6,fun b hb hlt=>h7 b (k4 b hb) hlt,fun b hlt hp hl=>?_⟩
 ·obtain ⟨cs,cc,ty,q1,q2,q3,q4⟩:=h5.boxes t b hb
  exact ⟨cs,cc,ty,q1,q2,q3,fun j x hx=>let ⟨v,a,r⟩:=q4 j x hx;⟨v,a,r.mono k1⟩⟩
 ·obtain ⟨q1,q2⟩:=h5.apart t b hb
  exact ⟨fun hl=>q1 (k4 b hl),k5 b q2 q1⟩
 ·exact k5 b (h8 b hlt hp hl) (fun hl2=>hl (h7 b hl2 hlt))
theorem LK {d:Nat} {o:Oper} {sz:Nat} {x y:aF} (hs:Sound P comp d (.append sz x y) o):Sound P comp d (.mG sz x y) o:=by
 refine ac5 (fun fr lo h v lo' h' e=>?_) hs
 simp only [aZ,kG] at e
 cases hq:aU sz x y fr lo h with
 |fail=>rw [hq] at e;cases e
 |ok v1 lo1 h1 =>
  rw [hq] at e
  dsimp only at e
  cases hf:vW v1 h1 with
  |mk v2 h2 =>
   rw [hf] at e
   cases e
   exact ⟨v1,h1,hq,hf,VO hq⟩
end
section
variable {P:Program} {comp:FuncId→Code→aH} {Hn:Hints} {g g':G} {σ σ':H} {w w':World} {β:Nat→Option Nat} {lo lo':Lo} {fr:List V} {A:Act}
theorem DN {α:Type} {a:Array α} {x:α} (h:a.toList=[x]):a=#[x]:=by
 cases a;simp at h;subst h;rfl
theorem yZ {α:Type} {a:Array α} {x y:α} (h:a.toList=[x,y]):a=#[x,y]:=by
 cases a;simp at h;subst h;rfl
theorem Qc {d:Nat} {o:Oper} {x:Operand} {ats:Array TypeId} {t el:TypeId} {n:Nat} (ht:ats[0]?=some t) (hu:P.underlying t=some (.array n el))
  (ho:o.op=.call { callee:=.builtin .len,args:=#[x],argTypes:=ats }):Sound P comp d (.mv (.const (.int .i64 n))) o:=by
 intro g β σ lo fr A w v lo' σ' h e
 simp only [aZ,jh,aF.ev,OR.ok.injEq] at e
 obtain ⟨rfl,rfl,rfl⟩:=e
 refine .pure h (x:=.int .i64 n) ?_ (.dP (.int _ _))
 simp only [execOp,ho,resolve,invoke,builtin,aA,Sem.run_pure,Result.andThen]
 simp [Builtin.len_,ht,aA,run_underlying hu,Result.andThen,goInt]
def adE (P:Program) (comp:FuncId→Code→aH) (d:Nat) (Cb:l7) (o:Oper):Prop :=
 (bF Cb=true∧Oh P comp d Cb o)∨(bF Cb=false∧Sound P comp d Cb o)
theorem sx {d:Nat} {Cb:l7} {o:Oper} (h:bF Cb=false) (s:Sound P comp d Cb o):adE P comp d Cb o:=.inr ⟨h,s⟩
theorem ac3 {f:Nat} {o:Oper} {Cb:l7} (h:cOp P Hn f o=some Cb):adE P comp (o.dst.getD 0) Cb o:=by
 obtain ⟨dst,op,ty,pos,aft,gd⟩:=o
 unfold cOp at h
 simp only [iJ,Option.pure_def] at h
 cases op with
 |move x =>
  simp only [ay,aC] at h
  obtain ⟨y,hy,rfl⟩:=h
  exact sx rfl (UZ hy (.inl rfl))
 |assign x =>
  simp only [ay,aC] at h
  obtain ⟨y,hy,rfl⟩:=h
  exact sx rfl (UZ hy (.inr rfl))
 |pick c a b =>
  simp only [ay,aC] at h
  obtain ⟨c',hc,a',ha,b',hb,rfl⟩:=h
  exact sx rfl (YG hc ha hb rfl)
 |alloc t =>
  simp only [ay,aC] at h
  obtain ⟨z,hz,rfl⟩:=h
  split
  ·exact sx rfl (P9 hz rfl)
  ·exact .inl ⟨rfl,UM hz rfl⟩
 |box t x =>
  simp only [ay,aC] at h
  obtain ⟨y,hy,rfl⟩:=h
  split
  ·exact sx rfl (YE hy rfl)
  ·exact .inl ⟨rfl,ac2 hy rfl⟩
 |build t ps =>
  simp only [ay] at h
  obtain ⟨z,hz,ds,hds,h⟩:=h
  split at h
  ·simp only [ay,aC] at h
   obtain ⟨places,hp,vps,hv,rfl⟩:=h
   exact sx rfl (G8 hz rfl (.inl ⟨_,places,hds,hp,hv⟩))
  ·simp only [ay,aC] at h
   obtain ⟨s,hs,vps,hv,rfl⟩:=h
   exact sx rfl (G8 hz rfl (.inr ⟨_,_,s,hds,hs,hv⟩))
  ·cases h
 |buildSlice t n ps =>
  simp only [ay] at h
  obtain ⟨ds,hds,h⟩:=h
  split at h
  ·simp only [ay] at h
   obtain ⟨s,hs,z,hz,vps,hv,h⟩:=h
   split at h
   ·cases h
   ·rename_i hq
    simp only [aC] at h
    subst h
    simp at hq
    exact sx rfl (ac6 hds hs hz rfl hv (by simpa using hq.1.1) hq.1.2 hq.2)
  ·cases h
 |load t a =>
  simp only [ay] at h
  obtain ⟨y,hy,b,hb,h⟩:=h
  cases b
  ·simp at h;subst h
   exact sx rfl (UU hb hy rfl)
  ·simp [ay] at h
   obtain ⟨n,hn,rfl⟩:=h
   exact sx rfl (UW hb hn hy rfl)
 |store t a x =>
  simp only [ay,aC] at h
  obtain ⟨n,hn,a',ha,x',hx,rfl⟩:=h
  exact sx rfl (U1 hn ha hx rfl)
 |nilCheck x =>
  simp only [ay,aC] at h
  obtain ⟨y,hy,rfl⟩:=h
  exact sx rfl (U0 hy rfl)
 |binOp b t x y yt =>
  cases b with
  |eql =>
   simp only [ay,aC] at h
   obtain ⟨c,hc,x',hx,y',hy,rfl⟩:=h
   exact sx rfl (UO hx hy hc (by simp) rfl)
  |neq =>
   simp only [ay,aC] at h
   obtain ⟨c,hc,x',hx,y',hy,rfl⟩:=h
   exact sx rfl (UO hx hy hc (by simp) rfl)
  |_ =>
   simp only [ay,aC] at h
   obtain ⟨x',hx,y',hy,rfl⟩:=h
   exact sx rfl (ac1 hx hy rfl)
 |unOp u t x =>
  cases u with
  |not =>
   simp only [ay,aC] at h
   obtain ⟨y,hy,rfl⟩:=h
   exact sx rfl (ac8 hy rfl)
  |neg =>
   simp only [ay,aC] at h
   obtain ⟨y,hy,rfl⟩:=h
   exact sx rfl (ac7 hy rfl)
  |_=>simp at h
 |convert s t x =>
  simp only [ay] at h
  obtain ⟨ds,hds,dt,hdt,h⟩:=h
  split at h
  ·simp only [ay,aC] at h
   obtain ⟨y,hy,rfl⟩:=h
   exact sx rfl (LP hds hdt hy rfl)
  ·simp only [ay,aC] at h
   obtain ⟨y,hy,rfl⟩:=h
   exact sx rfl (U2 hds hdt hy rfl)
  ·simp only [ay] at h
   obtain ⟨de,hde,h⟩:=h
   split at h
   ·split at h
    ·rename_i hst
     simp only [ay,aC] at h
     obtain ⟨y,hy,rfl⟩:=h
     exact sx rfl (YH hds hdt hde (by simpa using hst) hy rfl)
    ·cases h
   ·cases h
  ·simp only [ay] at h
   obtain ⟨de,hde,h⟩:=h
   split at h
   ·simp only [ay,aC] at h
    obtain ⟨y,hy,rfl⟩:=h
    exact sx rfl (LW hds hdt hde hy rfl)
   ·cases h
  ·simp only [ay] at h
   obtain ⟨de,hde,h⟩:=h
   split at h
   ·simp only [ay,aC] at h
    obtain ⟨y,hy,rfl⟩:=h
    exact sx rfl (U3 hds hde hdt hy rfl)
   ·cases h
  ·cases h
 |makeInterface t x =>
  simp only [ay] at h
  obtain ⟨ds,hds,h⟩:=h
  split at h
  ·cases h
  ·rename_i hn
   simp only [ay,aC] at h
   obtain ⟨y,hy,rfl⟩:=h
   exact sx rfl (LV hds (fun ms e=>hn ms e) hy rfl)
 |makeFunc fn a b =>
  cases fn with
  |func q =>
   simp only [ay,aC] at h
   obtain ⟨a',ha,b',hb,rfl⟩:=h
   exact sx rfl (Qe ha hb rfl)
  |_=>simp at h
 |makeMap t r =>
  cases r with
  |none=>simp at h;subst h;exact sx rfl (UY rfl)
  |some r=>simp at h
 |makeSlice t l c =>
  simp only [ay] at h
  obtain ⟨ds,hds,h⟩:=h
  split at h
  ·simp only [ay,aC] at h
   obtain ⟨s,hs,h⟩:=h
   split at h
   ·simp only [ay,aC] at h
    obtain ⟨z,hz,l',hl,c',hc,rfl⟩:=h
    exact sx rfl (KD hds hs hz hl hc rfl)
   ·simp only [ay,aC] at h
    obtain ⟨z,hz,l',hl,c',hc,rfl⟩:=h
    exact sx rfl (CJ hds hs hz hl hc rfl)
  ·cases h
 |slice t x l hi m =>
  simp only [ay] at h
  obtain ⟨ds,hds,h⟩:=h
  split at h
  ·simp only [ay,aC] at h
   obtain ⟨s,hs,x',hx,l',hl,h',hh,m',hm,rfl⟩:=h
   exact sx rfl (G9 hds (.inr ⟨rfl,_,rfl,hs⟩) hx hl hh hm rfl)
  ·simp only [ay,aC] at h
   obtain ⟨x',hx,l',hl,h',hh,m',hm,rfl⟩:=h
   exact sx rfl (G9 hds (.inl ⟨rfl,rfl⟩) hx hl hh hm rfl)
  ·cases h
 |fieldAddr t x i =>
  simp only [ay] at h
  obtain ⟨⟨off,ag,s⟩,hf,h⟩:=h
  dsimp only at h
  split at h
  ·cases h
  ·rename_i hs
   simp only [ay,aC] at h
   obtain ⟨y,hy,rfl⟩:=h
   exact sx rfl (H9 hf hs hy rfl)
 |field t x i =>
  simp only [ay] at h
  obtain ⟨⟨off,ag,s⟩,hf,h⟩:=h
  dsimp only at h
  simp only [ay,aC] at h
  obtain ⟨y,hy,rfl⟩:=h
  exact sx rfl (UQ hf hy rfl)
 |indexAddr t x i =>
  simp only [ay] at h
  obtain ⟨ds,hds,h⟩:=h
  split at h
  ·simp only [ay,aC] at h
   obtain ⟨s,hs,x',hx,i',hi,rfl⟩:=h
   exact sx rfl (LU hds hs hx hi rfl)
  ·simp only [ay,aC] at h
   obtain ⟨s,hs,x',hx,i',hi,rfl⟩:=h
   exact sx rfl (Qa hds hs hx hi rfl)
  ·cases h
 |index t x i =>
  simp only [ay] at h
  obtain ⟨ds,hds,h⟩:=h
  split at h
  ·simp only [ay,aC] at h
   obtain ⟨x',hx,i',hi,rfl⟩:=h
   exact sx rfl (UR hds hx hi rfl)
  ·simp only [ay,aC] at h
   obtain ⟨ag,ha,s,hs,x',hx,i',hi,rfl⟩:=h
   exact sx rfl (Qb hds ha hs hx hi rfl)
  ·cases h
 |lookup t x i ok =>
  simp only [ay] at h
  obtain ⟨ds,hds,h⟩:=h
  split at h
  ·simp only [ay,aC] at h
   obtain ⟨kc,hk,z,hz,x',hx,i',hi,rfl⟩:=h
   exact sx rfl (Qd hds hk hz hx hi rfl)
  ·cases h
 |mapUpdate t m k x =>
  simp only [ay] at h
  obtain ⟨ds,hds,h⟩:=h
  split at h
  ·simp only [ay,aC] at h
   obtain ⟨kc,hk,m',hm,k',hk',x',hx,rfl⟩:=h
   exact sx rfl (EM hds hk hm hk' hx (.inl rfl))
  ·cases h
 |insert t m k x =>
  simp only [ay] at h
  obtain ⟨ds,hds,h⟩:=h
  split at h
  ·simp only [ay,aC] at h
   obtain ⟨kc,hk,m',hm,k',hk',x',hx,rfl⟩:=h
   exact sx rfl (EM hds hk hm hk' hx (.inr rfl))
  ·cases h
 |extract x i =>
  simp only [ay,aC] at h
  obtain ⟨x',hx,rfl⟩:=h
  exact sx rfl (LQ hx rfl)
 |call c =>
  obtain ⟨callee,args,ats⟩:=c
  cases callee with
  |builtin b =>
   dsimp only at h
   split at h
   ·rename_i x hargs
    have:=DN hargs;subst this
    simp only [ay] at h
    obtain ⟨t,ht,ds,hds,h⟩:=h
    split at h
    ·simp only [aC] at h
     subst h
     exact sx rfl (Qc ht hds rfl)
    ·simp only [ay,aC] at h
     obtain ⟨x',hx,rfl⟩:=h
     exact sx rfl (Gh ht hds trivial hx rfl)
    ·simp only [ay,aC] at h
     obtain ⟨x',hx,rfl⟩:=h
     exact sx rfl (Gh ht hds trivial hx rfl)
    ·simp only [ay,aC] at h
     obtain ⟨x',hx,rfl⟩:=h
     exact sx rfl (Gh ht hds trivial hx rfl)
    ·cases h
   ·rename_i x hargs
    have:=DN hargs;subst this
    simp only [ay] at h
    obtain ⟨t,ht,ds,hds,h⟩:=h
    split at h
    ·simp only [ay,aC] at h
     obtain ⟨x',hx,rfl⟩:=h
     exact sx rfl (ac4 ht hds hx rfl)
    ·cases h
   ·rename_i x y hargs
    have:=yZ hargs;subst this
    simp only [ay,aC] at h
    obtain ⟨x',hx,y',hy,rfl⟩:=h
    exact sx rfl (EN (b:=true) hx hy rfl)
   ·rename_i x y hargs
    have:=yZ hargs;subst this
    simp only [ay,aC] at h
    obtain ⟨x',hx,y',hy,rfl⟩:=h
    exact sx rfl (EN (b:=false) hx hy rfl)
   ·rename_i x y hargs
    have:=yZ hargs;subst this
    simp only [ay] at h
    obtain ⟨t,ht,ds,hds,h⟩:=h
    split at h
    ·simp only [ay] at h
     obtain ⟨s,hs,u,hu,du,Vq,h⟩:=h
     split at h
     ·simp only [ay,aC] at h
      obtain ⟨z,hz,x',hx,y',hy,rfl⟩:=h
      exact sx rfl (LM ht hu hds Vq hs hz hx hy rfl)
     ·split at h
      ·simp only [ay,aC] at h
       obtain ⟨x',hx,y',hy,rfl⟩:=h
       exact sx rfl (LK (yX ht hu hds Vq (by simp) hs hx hy rfl))
      ·simp only [ay,aC] at h
       obtain ⟨x',hx,y',hy,rfl⟩:=h
       exact sx rfl (yX ht hu hds Vq (by simp) hs hx hy rfl)
     ·simp only [ay,aC] at h
      obtain ⟨x',hx,y',hy,rfl⟩:=h
      exact sx rfl (yX ht hu hds Vq (by simp) hs hx hy rfl)
     ·cases h
    ·cases h
   ·rename_i x y hargs
    have:=yZ hargs;subst this
    simp only [ay] at h
    obtain ⟨t,ht,ds,hds,h⟩:=h
    split at h
    ·simp only [ay,aC] at h
     obtain ⟨s,hs,x',hx,y',hy,rfl⟩:=h
     exact sx rfl (YF ht hds hs hx hy rfl)
    ·cases h
   ·rename_i x hargs
    have:=DN hargs;subst this
    simp only [ay] at h
    obtain ⟨t,ht,ds,hds,h⟩:=h
    split at h
    ·simp only [ay,aC] at h
     obtain ⟨s,hs,z,hz,x',hx,rfl⟩:=h
     exact sx rfl (UN ht hds hs hz hx rfl)
    ·cases h
   ·cases h
  |_=>simp at h
 |_=>simp at h
end
section
variable {P:Program} {Hn:Hints} {g g' g'':G} {σ σ' oJ:H} {w w' w'':World} {β β' β'':Nat→Option Nat} {lo lo':Lo} {fr fr':List V} {A A':Act} {B0:Nat} {ro:Option Nat}
def uS (P:Program) (Hn:Hints) (g:G) (σ:H) (w:World) (v:V) (σ':H) (x:Value) (w':World):Prop :=
 ∃ g',Rv g' v x∧Rw P (aQ P Hn) g' σ' w'∧Stp g (fun _=>none) σ w g' (fun _=>none) σ' w'
def Upon (P:Program) (K:Value→World→Prop):Result Next→Prop
 |.ok (.value v) w'=>K v w'
 |.ok (.enter f args) w'=>CallsIn (Fw none) 0 P f args w' fun|.returned v,w''=>K v w''|_,_=>False
 |.ok (.round l f tmps assign body) w'=>RoundIn (Fw none) 0 P l f tmps assign body w' fun|.returned v,w''=>K v w''|_,_=>False
 |_=>False
theorem Upon.mono {K K':Value→World→Prop} (h:∀ v w,K v w→K' v w):∀ {r:Result Next},Upon P K r→Upon P K' r:=by
 intro r hr
 cases r with
 |halt x w=>exact hr.elim
 |ok x w =>
  cases x with
  |value v=>exact h _ _ hr
  |enter f args=>exact CallsIn.mono hr fun e w' he=>by cases e<;>first|exact h _ _ he|exact he.elim
  |round l f t a b=>exact RoundIn.mono hr fun e w' he=>by cases e<;>first|exact h _ _ he|exact he.elim
  |_=>exact hr.elim
def Y2 (args:List V):Prop:=∃ b k c,args=[b,.int k c]∧∀ fn x y,b≠.func fn x y
def nM (P:Program) (Hn:Hints) (f:FuncId) (args:List V) (σ:H) (out:Out):Prop :=
 ∀ (g:G) (As:Array Value) (w:World) (v:V) (σ':H),kK g args As.toList→Rw P (aQ P Hn) g σ w→out=.val v σ' →
  (((callFunc f As).run P w=.ok (.enter f As) w)∧CallsIn (Fw none) 0 P f As w fun|.returned x,w'=>uS P Hn g σ w v σ' x w'|_,_=>False) ∨
  (Y2 args∧∃ x w',(callFunc f As).run P w=.ok (.value x) w'∧uS P Hn g σ w v σ' x w')
theorem nM.upon {f:FuncId} {args:List V} {out:Out} (h:nM P Hn f args σ out) {As:Array Value} {v:V} (ha:kK g args As.toList) (hw:Rw P (aQ P Hn) g σ w) (e:out=.val v σ'):Upon P (uS P Hn g σ w v σ') ((callFunc f As).run P w):=by
 rcases h g As w v σ' ha hw e with ⟨h1,h2⟩|⟨_,x,w',h1,h2⟩
 ·rw [h1];exact h2
 ·rw [h1];exact h2
def L6 (P:Program) (Hn:Hints) (fv:V) (args:List V) (σ:H) (out:Out):Prop :=
 ∀ (g:G) (X:Value) (As:Array Value) (w:World) (v:V) (σ':H),Rv g fv X→kK g args As.toList→Rw P (aQ P Hn) g σ w→out=.val v σ' →
  ∃ d,(∀ w,(Deferred.ofValue X As).run P w=.ok d w)∧Upon P (uS P Hn g σ w v σ') ((invoke d.target d.args).run P w)
theorem put_defers (a:Act) (d:Option Tmp) (x:Value):(a.put d x).defers=a.defers:=by cases d<;>rfl
theorem Sc.put (h:Sc P (aQ P Hn) B0 g β σ lo fr A w) (d:Option Nat) {v:V} {x:Value} (hv:Rs g β v x):Sc P (aQ P Hn) B0 g β σ lo (eF fr d v) (A.put d x) w :=
 ⟨⟨h.s.f.eF hv,h.s.b,h.s.w⟩,by rw [put_defers];exact h.d,h.le⟩
theorem adp (hle:g.le g') (hf:Frm g σ (Cj β) w w') (hl:∀ b,Live g' σ' b→b<w.heap.size→Live g σ b) (hp:Phi g g' σ w):Stp g β σ w g' β σ' w' :=
 ⟨hle,hf,hl,fun t b hb _=>⟨t,hb⟩,hp⟩
theorem ZR {o:Oper} {Cb:l7} {d:Nat} {v:V} {Q:Exit→Act→World→Prop} {K:Act→World→Prop} (hd:∀ c,o.op≠.defer c) (hs:Sound P (aQ P Hn) d Cb o) (h:Sc P (aQ P Hn) B0 g β σ lo fr A w) (e:aZ d Cb fr lo σ=.ok v lo' σ')
  (hK:∀ g' x w',Sc P (aQ P Hn) B0 g' β σ' lo' (eF fr o.dst v) (A.put o.dst x) w'→Stp g β σ w g' β σ' w'→K (A.put o.dst x) w'):o.wpIn (Fw ro) 0 P A w K Q:=by
 refine ⟨fun _ _=>trivial,?_⟩
 have hse:(o.semAt (Fw ro).round A.eval)=execOp A.eval o:=Oper.semAt_eq _ _ _ hd
 rw [hse]
 obtain ⟨x,w',g',hr,hle,hv,hw,hb,hf,hl,hp⟩:=hs g β σ lo fr A w v lo' σ' h.s e
 have hst:=adp hle hf hl hp
 have hsc:Sc P (aQ P Hn) B0 g' β σ' lo' (eF fr o.dst v) (A.put o.dst x) w' :=
  ⟨⟨(h.s.f.mono hle).eF hv,hb,hw⟩,by rw [put_defers];exact h.step hst rfl,Nat.le_trans h.le hst.nI.size⟩
 rcases hr with hr|⟨hr,rfl⟩
 ·rw [hr];exact hK g' x w' hsc hst
 ·rw [hr];exact hK g' _ w' hsc hst
theorem Stp.JF (h:Sc P (aQ P Hn) B0 g β σ lo fr A w) (d:Nat) (ob:Go.Obj):Stp g β σ w g (fun t=>if t=d then some w.heap.size else β t) σ (w.alloc ob) where
 le:=.refl g
 nI:=Frm.alloc _ _
 live _ hb _:=hb
 box t b hb hlt:=by
  by_cases ht:t=d
  ·simp [ht] at hb;omega
  ·simp [ht] at hb;exact ⟨t,hb⟩
 phi _ _ hp _:=hp
theorem agb {o:Oper} {Cb:l7} {d:Nat} {v:V} {Q:Exit→Act→World→Prop} {K:Act→World→Prop} (hdst:o.dst=some d) (hd:∀ c,o.op≠.defer c) (hs:Oh P (aQ P Hn) d Cb o) (h:Sc P (aQ P Hn) B0 g β σ lo fr A w) (e:aZ d Cb fr lo σ=.ok v lo' σ')
  (hK:∀ β' x w',Sc P (aQ P Hn) B0 g β' σ' lo' (jW (dI d fr) d v) (A.put o.dst x) w'→Stp g β σ w g β' σ' w'→K (A.put o.dst x) w'):o.wpIn (Fw ro) 0 P A w K Q:=by
 refine ⟨fun _ _=>trivial,?_⟩
 have hse:(o.semAt (Fw ro).round A.eval)=execOp A.eval o:=Oper.semAt_eq _ _ _ hd
 rw [hse]
 obtain ⟨C,ty,hr,rfl,rfl,cs,rfl,hc⟩:=hs g β σ lo fr A w v lo' σ' h.s e
 rw [hr]
 have hst:=Stp.JF h d (.cells C ty (0,0))
 refine hK _ _ _ ⟨?_,?_,Nat.le_trans h.le hst.nI.size⟩ hst
 ·have:=h.s.JF d ty hc
  rw [hdst];exact this
 ·rw [put_defers];exact h.step hst rfl
theorem ad1 {n:Nat} {f:FuncId} {args:Array Value} {R:Ending→World→Prop} (h:CallsIn (Fw none) n P f args w R):CallsIn (Fw ro) n P f args w R:=h
theorem agT {n:Nat} {l:Nat} {f:FuncId} {t:Array Value} {a b:Code} {R:Ending→World→Prop} (h:RoundIn (Fw none) n P l f t a b w R):RoundIn (Fw ro) n P l f t a b w R:=h
theorem Mc {o:Oper} {v:V} {Q:Exit→Act→World→Prop} {K:Act→World→Prop} (hd:∀ c,o.op≠.defer c) (h:Sc P (aQ P Hn) B0 g β σ lo fr A w) (hu:Upon P (uS P Hn g σ w v σ') ((execOp A.eval o).run P w))
  (hK:∀ g' x w',Sc P (aQ P Hn) B0 g' β σ' lo (eF fr o.dst v) (A.put o.dst x) w'→Stp g β σ w g' β σ' w'→K (A.put o.dst x) w'):o.wpIn (Fw ro) 0 P A w K Q:=by
 refine ⟨fun _ _=>trivial,?_⟩
 have hse:(o.semAt (Fw ro).round A.eval)=execOp A.eval o:=Oper.semAt_eq _ _ _ hd
 rw [hse]
 have key:∀ x w',uS P Hn g σ w v σ' x w'→K (A.put o.dst x) w':=by
  rintro x w' ⟨g',hv,hw,hs⟩
  obtain ⟨hsc,hst⟩:=h.call hw hs
  exact hK g' x w' (hsc.put o.dst (.dP hv)) hst
 have hu':=Upon.mono key hu
 generalize (execOp A.eval o).run P w=r at hu'
 cases r with
 |halt x w=>exact hu'.elim
 |ok x w1 =>
  cases x with
  |value v=>exact hu'
  |enter f args=>exact ⟨fun hh=>by simp [Fw] at hh,CallsIn.mono (ad1 hu') fun e w' he=>by cases e<;>first|exact he|exact he.elim⟩
  |round l f t a b=>exact ⟨fun hh=>by simp [Fw] at hh,RoundIn.mono (agT hu') fun e w' he=>by cases e<;>first|exact he|exact he.elim⟩
  |_=>exact hu'.elim
def yP (ops:Array Oper):Bool:=ops.all fun o=>match o.op with|.defer _=>false|_=>true
def adC (P:Program) (Hn:Hints) (l:List Ins) (fr:List V) (lo:Lo) (σ:H) (out:Out):Prop :=
 ∀ (f:FuncId) (ops:Array Oper) (idx:Nat) (ro:Option Nat) (B0:Nat) (g:G) (β:Nat→Option Nat) (A:Act) (w:World),l=(ops.toList.drop idx).map (gK P Hn f ops)→(ro.isSome=true→yP ops=true) →
  Sc P (aQ P Hn) B0 g β σ lo fr A w→out≠.fail→wpOpsIn (Fw ro) 0 P ops (jR P (aQ P Hn) B0 g β σ w out) (List.range' idx (ops.size-idx)) A w
theorem aaw {ops:Array Oper} {out:Out} {l:List Nat} {Q':Exit→Act→World→Prop} (hs:Stp g β σ w g' β' σ' w') (h:wpOpsIn (Fw ro) 0 P ops (jR P (aQ P Hn) B0 g' β' σ' w' out) l A' w')
  (hq:Q'=jR P (aQ P Hn) B0 g β σ w out):wpOpsIn (Fw ro) 0 P ops Q' l A' w':=by
 subst hq
 have:∀ (l:List Nat) (a:Act) (v:World),wpOpsIn (Fw ro) 0 P ops (jR P (aQ P Hn) B0 g' β' σ' w' out) l a v→wpOpsIn (Fw ro) 0 P ops (jR P (aQ P Hn) B0 g β σ w out) l a v:=by
  intro l
  induction l with
  |nil=>intro a v h;exact h.after hs
  |cons i l ih =>
   intro a v h
   simp only [wpOpsIn] at h ⊢
   cases ho:ops[i]? with
   |none=>rw [ho] at h;exact ih _ _ h
   |some o =>
    rw [ho] at h
    dsimp only at h ⊢
    split
    ·rename_i hw
     rw [if_pos hw] at h
     refine ⟨h.1,?_⟩
     have h2:=h.2
     generalize (o.semAt (Fw ro).round a.eval).run P v=r at h2
     cases r with
     |halt x w =>
      cases x<;>simp only [Oper.uponIn] at h2 ⊢
      exact h2.after hs
     |ok x w =>
      cases x<;>simp only [Oper.uponIn] at h2 ⊢
      case value v=>exact ih _ _ h2
      case skip=>exact ih _ _ h2
      case defer d=>exact ih _ _ h2
      case enter f args =>
       refine ⟨h2.1,CallsIn.mono h2.2 fun e w' he=>?_⟩
       cases e with
       |returned v=>exact ih _ _ he
       |panicked c=>exact he.after hs
       |outgrown=>obtain ⟨a₀,w₀,hq⟩:=he;exact ⟨a₀,w₀,hq.after hs⟩
      case row r args=>exact ⟨h2.1,RowsIn.mono h2.2 fun v w' he=>ih _ _ he⟩
      case round l f t a b =>
       refine ⟨h2.1,RoundIn.mono h2.2 fun e w' he=>?_⟩
       cases e with
       |returned v=>exact ih _ _ he
       |panicked c=>exact he.after hs
       |outgrown=>obtain ⟨a₀,w₀,hq⟩:=he;exact ⟨a₀,w₀,hq.after hs⟩
    ·rename_i hw
     rw [if_neg hw] at h
     exact ⟨h.1,ih _ _ h.2⟩
 exact this l A' w' h
end
section
variable {P:Program} {Hn:Hints} {g g' g'':G} {σ σ' oJ:H} {w w' w'':World} {β β' β'':Nat→Option Nat} {lo lo':Lo} {fr fr':List V} {A A':Act} {B0:Nat} {ro:Option Nat}
theorem Qx {f:Nat} {o:Oper} {Cb:l7} (h:cOp P Hn f o=some Cb):∀ c,o.op≠.defer c:=by
 intro c hc
 unfold cOp at h
 rw [hc] at h
 cases h
theorem RI:∀ {ids:List Nat} {n:Nat},vK n ids=true→n∈ids
 |[],_,h=>by cases h
 |x::xs,n,h=>by
  simp only [vK,gu] at h
  rcases h with h|h
  ·have:=aJ h;subst this;simp
  ·exact eX _ (RI h)
theorem oH (A:Act) (d:Option Tmp) (x:Value):∀ t:Nat,d≠some t→(A.put d x).tmps[t]?=A.tmps[t]?:=by
 intro t h
 cases d with
 |none=>rfl
 |some d =>
  have:d≠t:=fun e=>h (by rw [e])
  simp [Act.put,Array.getElem?_setIfInBounds_ne this]
theorem DY {ih:Ih} {os:List Ins} {H2:Hints} {f:FuncId} {o:Oper} {Q:Exit→Act→World→Prop} {K:Act→World→Prop}
  (hcall:∀ f args σ,nM P Hn f args σ (ih (.call f args) [] [] σ)) (happ:∀ fv args σ,L6 P Hn fv args σ (ih (.app fv args) [] [] σ)) (hidle:∀ q∈H2.idle,wZ P q) (hloc:∀ t k args σ,ih (.app (.bf t k) args) [] [] σ=.fail)
  (hro:ro.isSome=true→∀ c,o.op≠.defer c) (h:Sc P (aQ P Hn) B0 g β σ lo fr A w) (hne:qK ih os ((ug P H2 f o).getD (.op none .bad)) fr lo σ≠.fail)
  (hK:∀ g' β' σ' lo' fr' A' w',Sc P (aQ P Hn) B0 g' β' σ' lo' fr' A' w'→Stp g β σ w g' β' σ' w'→(∀ t:Nat,o.dst≠some t→A'.tmps[t]?=A.tmps[t]?)→ih (.ops os) fr' lo' σ'=qK ih os ((ug P H2 f o).getD (.op none .bad)) fr lo σ→K A' w'):o.wpIn (Fw ro) 0 P A w K Q:=by
 cases hc:ug P H2 f o with
 |none =>
  rw [hc] at hne
  exact absurd rfl hne
 |some i0 =>
  rw [hc] at hne hK
  simp only [Option.getD_some] at hne hK
  have plain:∀ Cb,cOp P H2 f o=some Cb→i0=.op o.dst Cb→o.wpIn (Fw ro) 0 P A w K Q:=by
   intro Cb hv hi
   subst hi
   have hd:=Qx hv
   rcases ac3 (comp:=aQ P Hn) hv with ⟨ha,hs⟩|⟨ha,hs⟩
   ·cases hdst:o.dst with
    |none=>rw [hdst] at hne;simp only [qK,ha,cond_true] at hne;exact absurd rfl hne
    |some t =>
     rw [hdst] at hne hK hs
     simp only [qK,ha,cond_true,Option.getD_some] at hne hK hs
     cases he:aZ t Cb fr lo σ with
     |fail=>rw [he] at hne;exact absurd rfl hne
     |ok v lo1 σ1 =>
      rw [he] at hK
      exact agb hdst hd hs h he fun β' x w' hsc hst=>hK _ _ _ _ _ _ _ hsc hst (fun u hu=>oH A o.dst x u (by rw [hdst];exact hu)) rfl
   ·cases hdst:o.dst with
    |none =>
     rw [hdst] at hne hK hs
     simp only [qK,ha,cond_false,Option.getD_none] at hne hK hs
     cases he:aZ 0 Cb fr lo σ with
     |fail=>rw [he] at hne;exact absurd rfl hne
     |ok v lo1 σ1 =>
      rw [he] at hK
      exact ZR hd hs h he fun g' x w' hsc hst=>hK _ _ _ _ _ _ _ hsc hst (fun u hu=>oH A o.dst x u (by rw [hdst];exact hu)) (by rw [hdst];rfl)
    |some t =>
     rw [hdst] at hne hK hs
     simp only [qK,ha,cond_false,Option.getD_some] at hne hK hs
     cases he:aZ t Cb fr lo σ with
     |fail=>rw [he] at hne;exact absurd rfl hne
     |ok v lo1 σ1 =>
      rw [he] at hK
      exact ZR hd hs h he fun g' x w' hsc hst=>hK _ _ _ _ _ _ _ hsc hst (fun u hu=>oH A o.dst x u (by rw [hdst];exact hu)) (by rw [hdst];rfl)
  unfold ug at hc
  split at hc
  ·rename_i q args ats hop
   simp only [iJ,Option.pure_def,ay,aC] at hc
   obtain ⟨args',ha,rfl⟩:=hc
   simp only [qK] at hne hK
   generalize hl:iD (aF.evs args' fr)=l at hne hK
   cases l with
   |true=>exact absurd rfl hne
   |false =>
   simp only [cond_false] at hne hK
   have Lc:=kK.evs h.s.f ha hl
   cases ho:ih (.call q (aF.evs args' fr)) [] [] σ with
   |val v σ1 =>
    rw [ho] at hK
    have hco:=(hcall q (aF.evs args' fr) σ).upon (As:=args.map A.eval) (by simpa using Lc) h.s.w ho
    refine Mc (fun c hc=>by rw [hop] at hc;cases hc) h (v:=v) (σ':=σ1) ?_ fun g' x w' hsc hst=>hK _ _ _ _ _ _ _ hsc hst (oH _ _ _) rfl
    have:(execOp A.eval o).run P w=(callFunc q (args.map A.eval)).run P w:=by
     simp only [execOp,hop,resolve,Act.eval,Deferred.ofValue,aA,Sem.run_pure,Result.andThen,invoke]
     simp
    rw [this];exact hco
   |fail=>rw [ho] at hne;exact absurd rfl hne
   |norm _ _ _=>rw [ho] at hne;exact absurd rfl hne
   |jump _ _ _ _=>rw [ho] at hne;exact absurd rfl hne
  ·rename_i c args ats hnf hop
   simp only [iJ,Option.pure_def,ay,aC] at hc
   obtain ⟨c',hcc,args',ha,rfl⟩:=hc
   simp only [qK] at hne hK
   generalize hl:iD (aF.evs args' fr)=l at hne hK
   cases l with
   |true=>exact absurd rfl hne
   |false =>
   simp only [cond_false] at hne hK
   have Lc:=kK.evs h.s.f ha hl
   have hrc:=Rs.ev h.s.f hcc
   cases ho:ih (.app (c'.ev fr) (aF.evs args' fr)) [] [] σ with
   |val v σ1 =>
    rw [ho] at hK
    have hcv:Rv g (c'.ev fr) (A.eval c)∨∃ t k,c'.ev fr=.bf t k:=by
     generalize c'.ev fr=z at hrc
     cases z<;>first|exact .inr ⟨_,_,rfl⟩|exact .inl hrc
    rcases hcv with hcv|⟨t,k,hcv⟩
    ·obtain ⟨d,hd1,hd2⟩:=happ (c'.ev fr) (aF.evs args' fr) σ g (A.eval c) (args.map A.eval) w v σ1 hcv (by simpa using Lc) h.s.w ho
     refine Mc (fun c hc=>by rw [hop] at hc;cases hc) h (v:=v) (σ':=σ1) ?_ fun g' x w' hsc hst=>hK _ _ _ _ _ _ _ hsc hst (oH _ _ _) rfl
     have:(execOp A.eval o).run P w=(invoke d.target d.args).run P w:=by
      simp only [execOp,hop,resolve,aA,hd1,Result.andThen]
     rw [this];exact hd2
    ·rw [hcv] at ho
     rw [hloc] at ho
     cases ho
   |fail=>rw [ho] at hne;exact absurd rfl hne
   |norm _ _ _=>rw [ho] at hne;exact absurd rfl hne
   |jump _ _ _ _=>rw [ho] at hne;exact absurd rfl hne
  ·rename_i c args ats hop
   split at hc
   ·cases hc
   rename_i hdn
   have hdn:o.dst=none:=by cases hq:o.dst with|none=>rfl|some t=>rw [hq] at hdn;simp at hdn
   simp only [iJ,Option.pure_def,ay,aC] at hc
   obtain ⟨c',hcc,args',ha,rfl⟩:=hc
   have hrn:ro=none:=by
    cases ro with
    |none=>rfl
    |some l=>exact absurd hop (hro rfl _)
   subst hrn
   have hrc:=Rs.ev h.s.f hcc
   simp only [qK] at hne hK
   generalize hq:Ee H2.idle (c'.ev fr)=q at hne hK
   cases q
   ·exact absurd rfl hne
   simp only [cond_true] at hne hK
   have:∃ q first caps,c'.ev fr=.func (.func q) first caps∧q∈H2.idle:=by
    generalize c'.ev fr=z at hq
    cases z<;>try (cases hq;done)
    rename_i fn first caps
    cases fn<;>try (cases hq;done)
    exact ⟨_,_,_,rfl,RI hq⟩
   obtain ⟨q,first,caps,hz,hmem⟩:=this
   rw [hz] at hrc
   have aIV:∃ F C,A.eval c=.func (.func q) F C:=by
    generalize A.eval c=X at hrc
    cases hrc with
    |func hf _ _ _ _=>cases hf;exact ⟨_,_,rfl⟩
   obtain ⟨F,C,hX⟩:=aIV
   refine ⟨fun _ _=>trivial,?_⟩
   have hse:(o.semAt (Fw none).round A.eval)=execOp A.eval o:=rfl
   rw [hse]
   have hex:(execOp A.eval o).run P w=.ok (.defer { target:=.fn (.func q) C,args:=F++args.map A.eval }) w:=by
    simp [execOp,hop,resolve,hX,Deferred.ofValue,aA,Result.andThen]
   rw [hex]
   refine hK g β σ lo fr _ _ ?_ .refl (oH _ _ _) rfl
   rw [hdn]
   exact ⟨⟨h.s.f,h.s.b,h.s.w⟩,⟨.inr ⟨q,C,rfl,hidle q hmem⟩,h.d⟩,h.le⟩
  ·rename_i aNr aNs hnd
   simp only [iJ,Option.pure_def,ay,aC] at hc
   obtain ⟨Cb,hv,rfl⟩:=hc
   exact plain Cb hv rfl
end
section
variable {P:Program} {Hn:Hints} {g g' g'':G} {σ σ' oJ:H} {w w' w'':World} {β β' β'':Nat→Option Nat} {lo lo':Lo} {fr fr':List V} {A A':Act} {B0:Nat} {ro:Option Nat}
theorem Hr {ops:Array Oper} {j t:Nat} (h:wL g β fr A.tmps) (hd:(ops[j]?).bind (·.dst)=some t) {v:V} (hv:aO fr t=v) (hu:v≠.undef) :
  ∃ X,A.tmps[t]?=some X∧Rs g β v X∧yielded ops A.tmps j=(match (some X:Option Value) with|some (.bool b)=>some b|_=>none):=by
 have hs:=h.aO t
 rw [hv] at hs
 have ht:t<fr.length:=by
  rw [pG] at hv
  cases hf:fr[t]? with
  |none=>rw [hf] at hv;simp at hv;exact absurd hv.symm hu
  |some x=>exact (iW.1 hf).1
 have ht':t<A.tmps.size:=by rw [←h.size];exact ht
 have hx:A.tmps[t]?=some (A.tmps.getD t undef):=by simp [Array.getElem?_eq_getElem ht',Array.getD,ht']
 refine ⟨_,hx,hs,?_⟩
 unfold yielded
 rw [hd,Option.bind_some,hx]
 generalize A.tmps.getD t undef=X
 cases X<;>rfl
theorem EY {ops:Array Oper} {j t:Nat} (h:wL g β fr A.tmps) (hd:(ops[j]?).bind (·.dst)=some t) {c:Bool} (hv:aO fr t=.bool c):yielded ops A.tmps j=some c:=by
 obtain ⟨X,_,h2,h3⟩:=Hr h hd hv (by simp)
 cases h2;rw [h3]
theorem EZ {ops:Array Oper} {j t:Nat} (h:wL g β fr A.tmps) (hd:(ops[j]?).bind (·.dst)=some t) (hv:aO fr t=.tuple []):yielded ops A.tmps j=none:=by
 obtain ⟨X,_,h2,h3⟩:=Hr h hd hv (by simp)
 cases h2 with
 |tuple _ _=>rw [h3]
theorem agf {ih:Ih} (hops:∀ l fr lo σ,adC P Hn l fr lo σ (ih (.ops l) fr lo σ)) (hcall:∀ f args σ,nM P Hn f args σ (ih (.call f args) [] [] σ)) (happ:∀ fv args σ,L6 P Hn fv args σ (ih (.app fv args) [] [] σ))
  (hidle:∀ q∈Hn.idle,wZ P q) (hloc:∀ t k args σ,ih (.app (.bf t k) args) [] [] σ=.fail) (l:List Ins) (fr:List V) (lo:Lo) (σ:H):adC P Hn l fr lo σ (gG ih l fr lo σ):=by
 intro f ops idx ro B0 g β A w hl hro h hne
 cases l with
 |nil =>
  have hd:ops.toList.drop idx=[]:=by
   cases hq:ops.toList.drop idx with
   |nil=>rfl
   |cons a b=>rw [hq] at hl;simp at hl
  have hle:ops.size≤idx:=by simpa using hd
  have hz:ops.size-idx=0:=by omega
  rw [hz]
  exact BK h
 |cons i os =>
  cases hd:ops.toList.drop idx with
  |nil=>rw [hd] at hl;simp at hl
  |cons o rest =>
  rw [hd] at hl
  simp only [List.map_cons,List.cons.injEq] at hl
  obtain ⟨rfl,rfl⟩:=hl
  have hlt:idx<ops.size:=by
   have:(ops.toList.drop idx).length≠0:=by rw [hd];simp
   simp at this;omega
  have ho:ops[idx]?=some o:=by
   have:(ops.toList.drop idx)[0]?=some o:=by rw [hd];rfl
   simpa using this
  have hrest:rest.map (gK P Hn f ops)=(ops.toList.drop (idx+1)).map (gK P Hn f ops):=by
   have:ops.toList.drop (idx+1)=rest:=by rw [←List.drop_drop,hd];simp
   rw [this]
  have hrange:List.range' idx (ops.size-idx)=idx::List.range' (idx+1) (ops.size-(idx+1)):=by
   have:ops.size-idx=(ops.size-(idx+1))+1:=by omega
   rw [this,List.range'_succ]
  rw [hrange]
  have hdef:ro.isSome=true→∀ c,o.op≠.defer c:=by
   intro hr c hc
   have hnd:=hro hr
   simp only [yP,Array.all_eq_true] at hnd
   have:=hnd idx hlt
   have ho':ops[idx]=o:=by rw [Array.getElem?_eq_getElem hlt] at ho;exact gy ho
   rw [ho',hc] at this
   cases this
  have cont:∀ {out:Out} {g' β' σ' lo' fr' A' w'},Sc P (aQ P Hn) B0 g' β' σ' lo' fr' A' w'→Stp g β σ w g' β' σ' w'→ih (.ops (rest.map (gK P Hn f ops))) fr' lo' σ'=out→out≠.fail →
    wpOpsIn (Fw ro) 0 P ops (jR P (aQ P Hn) B0 g β σ w out) (List.range' (idx+1) (ops.size-(idx+1))) A' w':=by
   intro out g' β' σ' lo' fr' A' w' hsc hst he hout
   subst he
   exact aaw hst (hops _ _ _ _ f ops (idx+1) ro B0 g' β' A' w' hrest hro hsc hout) rfl
  simp only [gG] at hne ⊢
  simp only [wpOpsIn,ho]
  cases hg:o.guard with
  |none =>
   have hw:Region.wanted o (yielded ops A.tmps)=true:=by simp [Region.wanted,hg]
   rw [if_pos hw]
   have hi:gK P Hn f ops o=(ug P Hn f o).getD (.op none .bad):=by simp [gK,hg]
   rw [hi] at hne ⊢
   have hst:∀ i:Ins,(∀ t b d j,i≠.grd t b d j)→jQ ih (rest.map (gK P Hn f ops)) i=qK ih (rest.map (gK P Hn f ops)) i:=by
    intro i hi;cases i<;>first|rfl|exact absurd rfl (hi _ _ _ _)
   have hng:∀ t b d j,(ug P Hn f o).getD (.op none .bad)≠.grd t b d j:=by
    intro t b d j e
    cases hc:ug P Hn f o with
    |none=>rw [hc] at e;cases e
    |some i0 =>
     rw [hc] at e
     simp only [Option.getD_some] at e
     subst e
     unfold ug at hc
     split at hc<;>simp [ay] at hc
   rw [hst _ hng] at hne ⊢
   exact DY hcall happ hidle hloc hdef h hne fun g' β' σ' lo' fr' A' w' hsc hst _ he=>cont hsc hst he hne
  |some q =>
   obtain ⟨j,b⟩:=q
   cases hd:(ops[j]?).bind (·.dst) with
   |none =>
    have hi:gK P Hn f ops o=.op none .bad:=by simp [gK,hg,hd]
    rw [hi] at hne
    exact absurd rfl hne
   |some t =>
   have hi:gK P Hn f ops o=.grd t b o.dst ((ug P Hn f o).getD (.op none .bad)):=by simp [gK,hg,hd]
   rw [hi] at hne ⊢
   simp only [jQ,qP] at hne ⊢
   generalize hv:aO fr t=v at hne ⊢
   have skip:Region.wanted o (yielded ops A.tmps)=false→ih (.ops (rest.map (gK P Hn f ops))) (eF fr o.dst (.tuple [])) lo σ≠.fail →
     (if Region.wanted o (yielded ops A.tmps)=true then o.wpIn (Fw ro) 0 P A w (wpOpsIn (Fw ro) 0 P ops (jR P (aQ P Hn) B0 g β σ w (ih (.ops (rest.map (gK P Hn f ops))) (eF fr o.dst (.tuple [])) lo σ)) (List.range' (idx+1) (ops.size-(idx+1)))) (jR P (aQ P Hn) B0 g β σ w (ih (.ops (rest.map (gK P Hn f ops))) (eF fr o.dst (.tuple [])) lo σ))
      else (∀ f,o.about P w A.eval=some f→(Fw ro).fn f)∧wpOpsIn (Fw ro) 0 P ops (jR P (aQ P Hn) B0 g β σ w (ih (.ops (rest.map (gK P Hn f ops))) (eF fr o.dst (.tuple [])) lo σ)) (List.range' (idx+1) (ops.size-(idx+1))) (A.put o.dst undef) w):=by
    intro hw hout
    rw [if_neg (by rw [hw];simp)]
    exact ⟨fun _ _=>trivial,cont (h.put o.dst (.dP (.mkTuple (A:=#[]) (.nil g)))) .refl rfl hout⟩
   cases v with
   |bool c =>
    have hy:=EY h.s.f hd hv
    dsimp only at hne ⊢
    by_cases hcb:c=b
    ·subst hcb
     have hw:Region.wanted o (yielded ops A.tmps)=true:=by simp [Region.wanted,hg,hy]
     have hcc:(bif c then c else !c)=true:=by cases c<;>rfl
     rw [hcc] at hne ⊢
     simp only [cond_true] at hne ⊢
     rw [if_pos hw]
     exact DY hcall happ hidle hloc hdef h hne fun g' β' σ' lo' fr' A' w' hsc hst _ he=>cont hsc hst he hne
    ·have hw:Region.wanted o (yielded ops A.tmps)=false:=by simp [Region.wanted,hg,hy,hcb]
     have hcc:(bif b then c else !c)=false:=by
      cases c<;>cases b<;>first|rfl|exact absurd rfl hcb
     rw [hcc] at hne ⊢
     simp only [cond_false] at hne ⊢
     exact skip hw hne
   |tuple vs =>
    cases vs with
    |cons a b=>exact absurd rfl hne
    |nil =>
     have hy:=EZ h.s.f hd hv
     dsimp only at hne ⊢
     have hw:Region.wanted o (yielded ops A.tmps)=false:=by simp [Region.wanted,hg,hy]
     exact skip hw hne
   |_=>exact absurd rfl hne
end
section
variable {P:Program} {Hn:Hints} {comp:FuncId→Code→aH} {g g' g'':G} {σ σ' oJ:H} {w w' w'':World} {β β' β'':Nat→Option Nat} {lo lo':Lo} {fr fr':List V} {A A':Act} {B0:Nat} {ro:Option Nat}
theorem XM (hb:Rb g σ β lo w) (hw:Rw P comp g σ w) {v:V} {X:Value} {cs:List V} {ty:TypeId} {ag:Bool} {sz:Nat} {u:V} (hr:Rs g β v X) (hc:bg v lo σ=some cs) (ha:Fj P ty=some ag) (hn:kM P ty=some sz) (hm:mk ag (takeN sz cs)=some u) :
  ∃ z,(do loadVar ty (←asAddr X):Sem Value).run P w=.ok z w∧Rv g u z:=by
 obtain ⟨b,off,hX,hcell⟩:=Dj hb hw hr hc
 obtain ⟨r,hr,hcase⟩:=ZA hm
 obtain ⟨hlen,hr2⟩:=mX hr
 subst hX
 rcases hcase with ⟨rfl,rfl⟩|⟨rfl,rfl⟩
 ·have hcell':∀ j,j<sz→∃ z,w.cell? ⟨b,off+j,none⟩=some z∧∀ c,cs[j]?=some c→Rv g c z:=by
   intro j hj
   obtain ⟨z,hz,yK⟩:=hcell j cs[j] (fM (by omega))
   exact ⟨z,hz,fun c hc'=>by rw [fM (by omega)] at hc';cases hc';exact yK⟩
  have aeW:∃ f:Nat→Value,∀ j,j<sz→w.cell? ⟨b,off+j,none⟩=some (f j)∧∀ c,cs[j]?=some c→Rv g c (f j):=by
   refine ⟨fun j=>if hj:j<sz then (hcell' j hj).choose else undef,fun j hj=>?_⟩
   simp only [hj,dif_pos]
   exact (hcell' j hj).choose_spec
  obtain ⟨f,hf⟩:=aeW
  have hrun:=run_loadCells (P:=P) w ⟨b,off,none⟩ sz f (fun j hj=>by rw [lK];exact (hf j hj).1)
  refine ⟨.agg ((List.range sz).map f).toArray,?_,.JJ ?_⟩
  ·simp only [asAddr,aA,Sem.run_pure,Result.andThen,loadVar,uO ha,if_true,iV hn,hrun]
  ·subst hr2
   refine ⟨by simp;omega,fun j c z hc' hz=>?_⟩
   simp [List.getElem?_take] at hc'
   obtain ⟨hj,hc'⟩:=hc'
   have:(List.range sz)[j]?=some j:=by simp [hj]
   simp [this] at hz
   subst hz
   exact (hf j hj).2 c hc'
 ·have hcs:cs[0]?=some u:=by
   have:(cs.take sz)[0]?=some u:=by rw [←hr2];rfl
   rw [List.getElem?_take] at this
   split at this
   ·exact this
   ·cases this
  obtain ⟨z,hz,yK⟩:=hcell 0 u hcs
  have hz':w.cell? ⟨b,off,none⟩=some z:=hz
  refine ⟨z,?_,yK⟩
  simp only [asAddr,aA,Sem.run_pure,Result.andThen,loadVar,uO ha]
  simp [Result.andThen,hz']
theorem agY {α γ:Type} (f:α→Sem γ):∀ (l:List α) (xs:List γ),l.length=xs.length→(∀ (i:Nat) a x,l[i]?=some a→xs[i]?=some x→(f a).run P w=.ok x w)→(l.mapM f).run P w=.ok xs w:=by
 intro l
 induction l with
 |nil=>intro xs h _;cases xs with|nil=>simp|cons _ _=>simp at h
 |cons a l ih =>
  intro xs h hh
  cases xs with
  |nil=>simp at h
  |cons x xs =>
   have h1:=hh 0 a x rfl rfl
   have h2:=ih xs (by simpa using h) (fun i b y hb hy=>hh (i+1) b y (by simpa using hb) (by simpa using hy))
   simp [List.mapM_cons,h1,h2,Result.andThen]
theorem apg (h:St P comp g β σ lo fr A w):∀ (rs:List ResultVar) (cr:List (Nat×Bool×Bool×Nat)) (vs:List V),rs.mapM (aaC P)=some cr→resV fr lo σ cr=some vs →
  ∃ xs:List Value,kK g vs xs∧rs.length=xs.length∧∀ (i:Nat) r x,rs[i]?=some r→xs[i]?=some x →
   (match r with|.tmp t=>(pure (A.tmps.getD t undef):Sem Value)|.cell a t=>do loadVar t (←asAddr (A.tmps.getD a undef))).run P w=.ok x w:=by
 intro rs
 induction rs with
 |nil =>
  intro cr vs hc hv
  simp at hc;subst hc
  simp [resV] at hv;subst hv
  exact ⟨[],.nil g,rfl,fun i r x hr=>by simp at hr⟩
 |cons r rs ih =>
  intro cr vs hc hv
  simp only [List.mapM_cons,iJ,Option.pure_def,ay,aC] at hc
  obtain ⟨c,hcr,cs,hcs,rfl⟩:=hc
  obtain ⟨t,isC,ag,sz⟩:=c
  simp only [resV] at hv
  generalize hu:(bif isC then (match bg (aO fr t) lo σ with|some cs=>mk ag (takeN sz cs)|none=>none) else some (aO fr t))=u at hv
  cases u with
  |none=>cases hv
  |some u =>
  dsimp only at hv
  generalize hl:bY u=l at hv
  cases l
  ·simp only [cond_false] at hv
   cases hrest:resV fr lo σ cs with
   |none=>rw [hrest] at hv;cases hv
   |some us =>
   rw [hrest] at hv
   simp only [aC] at hv
   subst hv
   obtain ⟨xs,h1,h2,h3⟩:=ih cs us hcs hrest
   have key:∃ x,Rv g u x∧(match r with|.tmp t=>(pure (A.tmps.getD t undef):Sem Value)|.cell a t=>do loadVar t (←asAddr (A.tmps.getD a undef))).run P w=.ok x w:=by
    cases r with
    |tmp t' =>
     simp only [aaC,aC,Prod.mk.injEq] at hcr
     obtain ⟨rfl,rfl,rfl,rfl⟩:=hcr
     simp at hu
     have hr:=h.f.aO t'
     rw [hu] at hr
     exact ⟨_,hr.rv (by intro a b e;subst e;simp [bY] at hl),by simp⟩
    |cell a ty =>
     simp only [aaC,iJ,Option.pure_def,ay,aC,Prod.mk.injEq] at hcr
     obtain ⟨ag',hag,sz',hsz,rfl,rfl,rfl,rfl⟩:=hcr
     simp only [cond_true] at hu
     cases hcl:bg (aO fr a) lo σ with
     |none=>rw [hcl] at hu;cases hu
     |some cl =>
      rw [hcl] at hu
      obtain ⟨z,hz,yK⟩:=XM h.b h.w (h.f.aO a) hcl hag hsz hu
      exact ⟨z,yK,hz⟩
   obtain ⟨x,hx,hrun⟩:=key
   refine ⟨x::xs,.cons hx h1,by simp [h2],fun i r' x' hr' hx'=>?_⟩
   cases i with
   |zero=>simp at hr' hx';subst hr' hx';exact hrun
   |succ i=>exact h3 i r' x' (by simpa using hr') (by simpa using hx')
  ·cases hv
theorem ahp {vs:List V} {xs:List Value} (h:kK g vs xs):Rv g (eG vs) (if hh:xs.toArray.size=1 then xs.toArray[0] else .tuple xs.toArray):=by
 cases vs with
 |nil =>
  have:=h.KW;subst this
  simp [eG];exact .mkTuple (A:=#[]) (.nil g)
 |cons v vs =>
  obtain ⟨x,ys,rfl,hx,hs⟩:=h.y5
  cases vs with
  |nil =>
   have:=hs.KW;subst this
   simpa [eG] using hx
  |cons v2 vs =>
   obtain ⟨x2,zs,rfl,hx2,hs2⟩:=hs.y5
   have:¬((x::x2::zs).toArray.size=1):=by simp
   rw [dif_neg this]
   exact .mkTuple (by simpa [eG] using h)
theorem acR {α:Type} {m:Sem (List α)} {xs:List α} (h:m.run P w=.ok xs w):(Functor.map List.toArray m).run P w=.ok xs.toArray w:=by
 simp [h,Result.andThen]
theorem Kq (h:St P comp g β σ lo fr A w) {fn:Func} {cr:List (Nat×Bool×Bool×Nat)} {vs:List V} (hc:fn.results.toList.mapM (aaC P)=some cr) (hv:resV fr lo σ cr=some vs):∃ x,(results fn A.tmps).run P w=.ok x w∧Rv g (eG vs) x:=by
 obtain ⟨xs,h1,h2,h3⟩:=apg h _ cr vs hc hv
 have hm:=agY (P:=P) (w:=w) (fun r:ResultVar=>match r with|.tmp t=>(pure (A.tmps.getD t undef):Sem Value)|.cell a t=>do loadVar t (←asAddr (A.tmps.getD a undef))) fn.results.toList xs h2 h3
 refine ⟨_,?_,ahp h1⟩
 have h4:=acR hm
 unfold results
 rw [aA,Array.mapM_eq_mapM_toList]
 refine (congrArg (fun r=>Result.andThen r _) h4).trans ?_
 rfl
end
section
variable {P:Program} {Hn:Hints} {comp:FuncId→Code→aH} {g g' g'':G} {σ σ' oJ:H} {w w' w'':World} {β β' β'':Nat→Option Nat} {lo lo':Lo} {fr fr':List V} {A A':Act} {B0:Nat} {ro:Option Nat}
theorem St.ZG (h:St P comp g β σ lo fr A w) (hs:w.heap.size≤w'.heap.size) (hb:∀ (k:Nat),(∀ x,w.heap[k]?≠some (Go.Obj.deferred x))→k<w.heap.size→w'.heap[k]?=w.heap[k]?):St P comp g β σ lo fr A w':=by
 have hcell:∀ (k:Nat) (c:Array Value) ty fz,w.heap[k]?=some (.cells c ty fz)→w'.heap[k]?=w.heap[k]?:=fun k c ty fz e =>
  hb k (fun x hx=>by rw [e] at hx;cases hx) (fG.1 e).1
 refine ⟨h.f,h.b.same (.refl g) (fun _ hl _=>hl) (fun _ _ hp _ o=>hp o) (fun t b e=>?_),?_⟩
 ·obtain ⟨cs,c,ty,_,h5,_⟩:=h.b.boxes t b e
  exact hcell b c ty _ h5
 ·refine ⟨fun b o v e=>?_,fun i ob e=>?_,h.w.inj,h.w.fresh,fun i b n e=>Nat.lt_of_lt_of_le (h.w.bound i b n e) hs⟩
  ·have hf:=h.w.frozen b o v e
   have:w'.heap[b]?=w.heap[b]?:=by
    cases hq:w.heap[b]? with
    |none=>simp [World.cell?,hq] at hf
    |some q =>
     rw [←hq]
     refine hb b (fun x hx=>?_) (fG.1 hq).1
     rw [hx] at hq;cases hq
     simp [World.cell?,hx] at hf
   exact (cell_of_block (a:=⟨b,o,none⟩) this).trans hf
  ·obtain ⟨b,n,r,k,f⟩:=h.w.objs i ob e
   refine ⟨b,n,r,k.mono (.refl g) (hb b (fun x hx=>?_) k.lt),f⟩
   exact (h.nobody hx).1 ⟨i,n,by simp [e],r⟩
theorem Df.shut {r:Nat}:∀ {ds:List Deferred},(∀ d'∈ds,d'.target≠.collected r)→Df P B0 w ds→Df P B0 (w.putObj r (.deferred none)) ds
 |[],_,_=>trivial
 |d::ds,hk,h=>by
  refine ⟨?_,Df.shut (fun d' hd=>hk d' (eX _ hd)) h.2⟩
  rcases h.1 with ⟨r',h0,h1,h2,h3⟩|h1
  ·refine .inl ⟨r',h0,h1,?_,h3⟩
   have hne:r'≠r:=by intro e;subst e;exact hk d (by simp) h1
   rw [World.putObj_heap_other hne];exact h2
  ·exact .inr h1
theorem MW {fn:Func} {R:Ending→World→Prop}:∀ (ds:List Deferred) (w:World),Df P B0 w ds→St P comp g β σ lo fr A w →
  (∀ w',St P comp g β σ lo fr A w'→w'.heap.size=w.heap.size→w'.os=w.os→w'.tape=w.tape→w'.output=w.output→(∀ k,k<B0→w'.heap[k]?=w.heap[k]?)→∃ v,(results fn A.tmps).run P w'=.ok v w'∧R (.returned v) w') →
  LeavesInM (Fw none) 0 P fn A.tmps R ds .returning w:=by
 intro ds
 induction ds with
 |nil=>intro w _ h hfin;exact hfin w h rfl rfl rfl rfl (fun _ _=>rfl)
 |cons d ds ih =>
  intro w hd h hfin
  refine ⟨by simp,?_⟩
  rcases hd.1 with ⟨r,h0,h1,h2,h3⟩|⟨f,cap,h1,h2⟩
  ·refine .inl ⟨r,_,h1,run_takeDeferred h2,?_⟩
   have hoth:∀ k,k≠r→(w.putObj r (.deferred none)).heap[k]?=w.heap[k]?:=fun k hk=>World.putObj_heap_other hk
   refine ih _ (Df.shut h3 hd.2) (h.ZG (by simp) (fun k hk _=>hoth k (by intro e;subst e;exact hk _ h2))) (fun w' hs' hz ho ht hu hb=>hfin w' hs' (by rw [hz];simp) ho ht hu (fun k hk=>?_))
   rw [hb k hk,hoth k (by omega)]
  ·refine .inr ⟨fun hh=>by simp [Fw] at hh,.func f,cap,f,d.args++cap,h1,by rw [h1];exact h2.enters _ _,fun _ _=>trivial,?_⟩
   refine CallsDIn.mono (h2.calls (d.args++cap) w) fun e u' w' he=>?_
   obtain ⟨⟨v,rfl⟩,rfl,hh,ho,ht,hu⟩:=he
   refine ih w' (Df.keep (fun r x _=>by rw [hh]) hd.2) (h.ZG (by rw [hh];exact bC _) (fun k _ _=>by rw [hh])) (fun w'' hs' hz ho' ht' hu' hb=>hfin w'' hs' (by rw [hz,hh]) (ho'.trans ho) (ht'.trans ht) (hu'.trans hu) (fun k hk=>?_))
   rw [hb k hk,hh]
theorem Dx (n:Nat):∀ xs:List V,(pad n xs).length=max n xs.length:=by
 induction n with
 |zero=>intro xs;simp [pad]
 |succ n ih =>
  intro xs
  cases xs with
  |nil=>simp [pad,ih]
  |cons x xs=>simp [pad,ih]
theorem ZU (n:Nat):∀ (xs:List V) (i:Nat) (v:V),(pad n xs)[i]?=some v→xs[i]?=some v∨(xs.length≤i∧v=.undef):=by
 induction n with
 |zero=>intro xs i v h;exact .inl (by simpa [pad] using h)
 |succ n ih =>
  intro xs i v h
  cases xs with
  |nil =>
   cases i with
   |zero=>simp [pad] at h;exact .inr ⟨by simp,h.symm⟩
   |succ i =>
    simp [pad] at h
    rcases ih [] i v h with h|h
    ·simp at h
    ·exact .inr ⟨by simp,h.2⟩
  |cons x xs =>
   cases i with
   |zero=>simp [pad] at h;exact .inl (by simp [h])
   |succ i =>
    simp [pad] at h
    rcases ih xs i v h with h|h
    ·exact .inl (by simpa using h)
    ·exact .inr ⟨by simp;omega,h.2⟩
theorem Rx {args:List V} {As:Array Value} (h:kK g args As.toList) (nt:Nat):wL g (fun _=>none) (pad nt args) (As++Array.replicate (nt-As.size) undef):=by
 have hl:args.length=As.size:=by simpa using h.1
 refine ⟨by rw [Dx];simp;omega,fun t v x hv hx=>?_⟩
 rcases ZU nt args t v hv with hv|⟨_,rfl⟩
 ·have ht:t<As.size:=by rw [←hl];exact (iW.1 hv).1
  rw [Array.getElem?_append_left ht] at hx
  exact .dP (h.2 t v x hv (by simpa using hx))
 ·exact .dP (.undef _)
end
section
variable {P:Program} {Hn:Hints} {comp:FuncId→Code→aH} {g g' g'':G} {σ σ' oJ:H} {w w' w'':World} {β β' β'':Nat→Option Nat} {lo lo':Lo} {fr fr':List V} {A A':Act} {B0:Nat} {ro:Option Nat}
def Gq (P:Program) (Hn:Hints) (f:FuncId) (vf:ak):Prop :=
 ∀ (args:List V) (σ:H) (g:G) (As:Array Value) (w:World) (v:V) (σ':H),kK g args As.toList→Rw P (aQ P Hn) g σ w→ext vf.ext args σ=.val v σ'→∃ x w',(callFunc f As).run P w=.ok (.value x) w'∧uS P Hn g σ w v σ' x w'
theorem qI {f:FuncId} {fn:Func} {c:Code} (hf:P.funcs[f]?=some fn) (hb:fn.body=some c) (hn:fn.name≠ "runtime.NumGoroutine") (As:Array Value) (w:World):(callFunc f As).run P w=.ok (.enter f As) w:=by
 simp [callFunc,program,Sem.run,hf,hb,hn,Result.andThen]
theorem WA {n:Nat} {args:List V} {v:V} (e:ext n args σ=.val v σ'):Y2 args:=by
 unfold ext at e
 split at e
 ·rename_i b c
  refine ⟨b,_,_,rfl,fun fn x y hb=>?_⟩
  subst hb
  cases hq:Nat.blt c 256<;>simp [hq,bytesIn] at e
 ·exact ⟨_,_,_,rfl,by simp⟩
 ·rename_i b c
  refine ⟨b,_,_,rfl,fun fn x y hb=>?_⟩
  subst hb
  cases hq:Nat.blt c 256<;>simp [hq,bytesIn] at e
 ·cases e
theorem amV {ih:Ih} {fns:Nat→Option ak} (RF:∀ f vf,fns f=some vf→Gv P Hn f=some vf) (hext:∀ f vf,fns f=some vf→vf.ext≠0→Gq P Hn f vf)
  (hcode:∀ vc fr lo σ,IC P (aQ P Hn) vc fr lo σ (ih (.code vc) fr lo σ)) (f:FuncId) (args:List V) (σ:H):nM P Hn f args σ (sQ fns ih f args σ):=by
 intro g As w v σ' hargs hw e
 unfold sQ at e
 cases hf:fns f with
 |none=>rw [hf] at e;cases e
 |some vf =>
 rw [hf] at e
 dsimp only at e
 cases hx:vf.ext with
 |succ k =>
  have hb:Nat.beq vf.ext 0=false:=by rw [hx];rfl
  rw [hb] at e
  simp only [cond_false] at e
  exact .inr ⟨WA e,hext f vf hf (by omega) args σ g As w v σ' hargs hw e⟩
 |zero =>
  have hb:Nat.beq vf.ext 0=true:=by rw [hx];rfl
  rw [hb] at e
  simp only [cond_true] at e
  have hc:=RF f vf hf
  unfold Gv at hc
  simp only [iJ,Option.pure_def,ay] at hc
  obtain ⟨fn,hfn,hc⟩:=hc
  split at hc
  ·cases hc
  rename_i hname
  simp only [ay] at hc
  obtain ⟨res,hres,hc⟩:=hc
  cases hbody:fn.body with
  |none =>
   rw [hbody] at hc
   simp only [aC] at hc
   subst hc
   exfalso
   simp only [aro] at hx
   repeat' split at hx
   all_goals omega
  |some c =>
  rw [hbody] at hc
  simp only [aC] at hc
  subst hc
  dsimp only at e
  refine .inl ⟨qI hfn hbody (by simpa using hname) As w,?_⟩
  refine callsIn_of_wp_marks hfn hbody trivial ?_
  have hsc:Sc P (aQ P Hn) w.heap.size g (fun _=>none) σ [] (pad fn.ntmps args) { tmps:=As++Array.replicate (fn.ntmps-As.size) undef,defers:=[] } w :=
   ⟨⟨Rx hargs _,⟨fun t b e=>(by cases e),fun t b e=>(by cases e),fun t u b e=>(by cases e)⟩,hw⟩,trivial,bC _⟩
  have hne:ih (.code (aQ P Hn f c)) (pad fn.ntmps args) [] σ≠.fail:=by
   intro aAU;rw [aAU] at e;cases e
  refine wpIn_mono (hcode (aQ P Hn f c) (pad fn.ntmps args) [] σ f c none w.heap.size g (fun _=>none) _ w rfl (fun h=>by cases h) hsc hne) fun ex A' w' hp=>?_
  obtain ⟨wX,lo1,σ1,hout,g1,β1,hs1,hst⟩:=hp
  have hleave:leave { nt:=fn.ntmps,results:=res,ext:=0,body:=aQ P Hn f c,vW:=Hn.fr f } wX lo1 σ1=.val v σ'→LeavesInM (Fw none) 0 P fn A'.tmps (fun|.returned v_1,w''=>uS P Hn g σ w v σ' v_1 w''|_,_=>False) A'.defers .returning w':=by
   intro hl
   refine MW (B0:=w.heap.size) (g:=g1) (β:=β1) (σ:=σ1) (lo:=lo1) (fr:=wX) (A:=A') (comp:=aQ P Hn) A'.defers w' hs1.d hs1.s fun w2 hs2 hz ho ht hu hb2=>?_
   unfold leave finish at hl
   cases hv:resV wX lo1 σ1 res with
   |none=>rw [hv] at hl;cases hl
   |some vs =>
   rw [hv] at hl
   dsimp only at hl
   obtain ⟨x,hx,hxr⟩:=Kq hs2 hres hv
   refine ⟨x,hx,?_⟩
   have aC4:∀ (g2:G) (σ2:H),g1.le g2→(∀ b,Live g2 σ2 b→Live g1 σ1 b)→(∀ b,(∀ o,g1.φ b o=none)→¬Live g1 σ1 b→∀ o,g2.φ b o=none)→Stp g (fun _=>none) σ w g2 (fun _=>none) σ2 w2:=by
    intro g2 σ2 h1 h2 h3
    refine ⟨hst.le.trans h1,⟨ho.trans hst.nI.os,ht.trans hst.nI.tape,hu.trans hst.nI.output,by rw [hz];exact hst.nI.size,fun k hk hl hb hp=>?_⟩,fun b hb hlt=>hst.live b (h2 b hb) hlt,fun t b hb _=>(by cases hb),fun b hlt hp hl o=>?_⟩
    ·rw [hb2 k hk];exact hst.nI.block k hk hl hb hp
    ·exact h3 b (hst.phi b hlt hp hl) (fun hx=>hl (hst.live b hx hlt)) o
   cases hfz:Hn.fr f with
   |false =>
    rw [hfz] at hl
    simp only [cond_false,Out.val.injEq] at hl
    obtain ⟨rfl,rfl⟩:=hl
    exact ⟨g1,hxr,hs2.w,aC4 g1 σ1 (.refl _) (fun _ h=>h) (fun _ h _=>h)⟩
   |true =>
    rw [hfz] at hl
    simp only [cond_true] at hl
    cases hq:vW (eG vs) σ1 with
    |mk v2 σ2 =>
     rw [hq] at hl
     simp only [Out.val.injEq] at hl
     obtain ⟨rfl,rfl⟩:=hl
     obtain ⟨g2,k1,k2,k3,k4,k5⟩:=OI hxr hs2.w hq
     exact ⟨g2,k2,k3,aC4 g2 σ2 k1 k4 k5⟩
  rcases hout with ⟨ho,rfl⟩|⟨j,ho,rfl⟩
  ·rw [ho] at e
   exact hleave e
  ·rw [ho] at e
   cases j with
   |ret=>exact hleave e
   |exit i=>cases e
   |goto l=>cases e
end
section
variable {P:Program} {Hn:Hints} {comp:FuncId→Code→aH} {g g' g'':G} {σ σ' oJ:H} {w w' w'':World} {β β' β'':Nat→Option Nat} {lo lo':Lo} {fr fr':List V} {A A':Act} {B0:Nat} {ro:Option Nat}
theorem mM {h:H} {i:Nat} {l:zN} (e:getLoop h i=some l):h.get i=some (.loop l):=by
 unfold getLoop at e
 cases hg:h.get i with
 |none=>simp [hg] at e
 |some o=>cases o<;>simp [hg] at e;subst e;rfl
def Ej:Jump→Code
 |.ret=>.ret
 |.exit i=>.exit i
 |.goto i=>.goto i
theorem Rw.Io (h:Rw P comp g σ w) {i:Nat} {l:zN} (e:getLoop σ i=some l):∃ b n L,g.ρ i=some (b,n)∧w.heap[b]?=some (.loop L)∧(L.state=match l.st with|0=>.ready|1=>.busy|2=>.done|_=>.exhausted) ∧
  (L.pending=l.pending.map Ej)∧kK g l.fr L.tmps.toList∧L.params.toList=l.params∧(∃ f,comp f L.assign=l.assign∧comp f L.body=l.body∧flat L.assign=true∧flat L.body=true)∧(∀ o,g.φ b o=none)∧Live g σ b:=by
 obtain ⟨b,n,hr,ho,hf⟩:=h.objs i _ (mM e)
 obtain ⟨L,h1,h2,h3,h4,h5,h6⟩:=ho
 refine ⟨b,n,L,hr,h1,h2,?_,h4,h5,h6,hf,⟨i,n,by simp [mM e],hr⟩⟩
 rw [h3];cases l.pending with
 |none=>rfl
 |some j=>cases j<;>rfl
theorem Rw.apo (h:Rw P comp g σ w) {i b n:Nat} {l l':zN} {L L':Loop} (e:getLoop σ i=some l) (hr:g.ρ i=some (b,n)) (hL:w.heap[b]?=some (.loop L))
  (h1:L'.state=match l'.st with|0=>.ready|1=>.busy|2=>.done|_=>.exhausted) (h2:L'.pending=l'.pending.map Ej) (h3:l'.fr=l.fr∧l'.params=l.params∧l'.assign=l.assign∧l'.body=l.body)
  (h4:L'.tmps=L.tmps∧L'.params=L.params∧L'.assign=L.assign∧L'.body=L.body):Rw P comp g (σ.set i (.loop l')) (w.putObj b (.loop L'))∧∀ k,Live g (σ.set i (.loop l')) k→Live g σ k:=by
 have hlt:b<w.heap.size:=(fG.1 hL).1
 obtain ⟨b',n',hr',ho,hf⟩:=h.objs i _ (mM e)
 obtain ⟨rfl,rfl⟩:=Prod.mk.inj (gy (hr'.symm.trans hr))
 obtain ⟨L0,k1,k2,k3,k4,k5,k6⟩:=ho
 rw [hL] at k1;cases k1
 refine ⟨h.put (by simp [mM e]) hr' (by simp) (fun k hk=>World.putObj_heap_other hk) ⟨L',World.putObj_heap_same hlt,h1,?_,?_,?_,?_⟩,?_⟩
 ·rw [h2];cases l'.pending with
  |none=>rfl
  |some j=>cases j<;>rfl
 ·rw [h3.1,h4.1];exact k4
 ·rw [h4.2.1,h3.2.1];exact k5
 ·rw [h4.2.2.1,h4.2.2.2,h3.2.2.1,h3.2.2.2];exact k6
 ·rintro k ⟨j,m,hj,hk⟩
  rw [H.rQ] at hj
  by_cases e1:i=j
  ·subst e1;exact ⟨i,m,by simp [mM e],hk⟩
  ·simp [e1] at hj;exact ⟨j,m,hj,hk⟩
theorem ag2:∀ {ps:List Nat} {args fr fr':List V} {As:List Value} {T:Array Value},sK ps args fr=some fr'→kK g args As→kK g fr T.toList→As.length=ps.length∧kK g fr' ((ps.zip As).foldl (fun tmps p=>tmps.setIfInBounds p.1 p.2) T).toList:=by
 intro ps
 induction ps with
 |nil =>
  intro args fr fr' As T h ha hf
  cases args with
  |nil=>simp [sK] at h;subst h;have:=ha.KW;subst this;exact ⟨rfl,by simpa using hf⟩
  |cons _ _=>simp [sK] at h
 |cons p ps ih =>
  intro args fr fr' As T h ha hf
  cases args with
  |nil=>simp [sK] at h
  |cons v vs =>
   obtain ⟨x,xs,rfl,hx,hs⟩:=ha.y5
   simp only [sK] at h
   have hset:kK g (jW fr p v) (T.setIfInBounds p x).toList:=by
    refine ⟨by rw [iw];simpa using hf.1,fun i a y ha hy=>?_⟩
    rw [Ew] at ha
    simp only [Array.getElem?_toList,Array.getElem?_setIfInBounds] at hy
    have hl:fr.length=T.size:=by simpa using hf.1
    by_cases e:p=i
    ·subst e
     by_cases hp:p<fr.length
     ·have hp':p<T.size:=by omega
      simp [hp] at ha;simp [hp'] at hy
      subst ha hy;exact hx
     ·have:fr[p]?=none:=gI (by omega)
      simp [hp,this] at ha
    ·simp [e] at ha hy
     exact hf.2 i a y ha (by simpa using hy)
   obtain ⟨h1,h2⟩:=ih h hs hset
   exact ⟨by simp [h1],by simpa using h2⟩
theorem aeF {vs:List V} {T:Array Value} (h:kK g vs T.toList):wL g (fun _=>none) vs T :=
 ⟨by simpa using h.1,fun t v x hv hx=>.dP (h.2 t v x hv (by simpa using hx))⟩
theorem Sc.fresh {vs:List V} {T:Array Value} (h:kK g vs T.toList) (hw:Rw P comp g σ w):Sc P comp w.heap.size g (fun _=>none) σ [] vs { tmps:=T,defers:=[] } w :=
 ⟨⟨aeF h,⟨fun t b e=>(by cases e),fun t b e=>(by cases e),fun t u b e=>(by cases e)⟩,hw⟩,trivial,bC _⟩
theorem Stp.drop (h:Stp g (fun _=>none) σ w g' β' σ' w'):Stp g (fun _=>none) σ w g' (fun _=>none) σ' w':=⟨h.le,h.nI,h.live,fun t b hb _=>(by cases hb),h.phi⟩
end
section
variable {P:Program} {Hn:Hints} {comp:FuncId→Code→aH} {g g' g'':G} {σ σ' oJ:H} {w w' w'':World} {β β' β'':Nat→Option Nat} {lo lo':Lo} {fr fr':List V} {A A':Act} {B0:Nat} {ro:Option Nat}
theorem Sc.loop (h:Sc P comp B0 g β σ lo fr A w) {i b n:Nat} {l l':zN} {L L':Loop} (e:getLoop σ i=some l) (hr:g.ρ i=some (b,n)) (hL:w.heap[b]?=some (.loop L))
  (h1:L'.state=match l'.st with|0=>.ready|1=>.busy|2=>.done|_=>.exhausted) (h2:L'.pending=l'.pending.map Ej) (h3:l'.fr=l.fr∧l'.params=l.params∧l'.assign=l.assign∧l'.body=l.body)
  (h4:L'.tmps=L.tmps∧L'.params=L.params∧L'.assign=L.assign∧L'.body=L.body):Sc P comp B0 g β (σ.set i (.loop l')) lo fr A (w.putObj b (.loop L'))∧Stp g β σ w g β (σ.set i (.loop l')) (w.putObj b (.loop L')):=by
 obtain ⟨hw,hlv⟩:=h.s.w.apo e hr hL h1 h2 h3 h4
 have hlive:Live g σ b:=⟨i,n,by simp [mM e],hr⟩
 have hoth:∀ k,k≠b→(w.putObj b (.loop L')).heap[k]?=w.heap[k]?:=fun k hk=>World.putObj_heap_other hk
 have hst:Stp g β σ w g β (σ.set i (.loop l')) (w.putObj b (.loop L')) :=
  ⟨.refl g,⟨rfl,rfl,rfl,by simp,fun k _ hk _ _=>hoth k (by intro e';subst e';exact hk hlive)⟩,fun k hk _=>hlv k hk,fun t k hk _=>⟨t,hk⟩,fun _ _ hp _=>hp⟩
 exact ⟨⟨⟨h.s.f,h.s.b.same (.refl g) (fun k hk _=>hlv k hk) (fun _ _ hp _ o=>hp o) (fun t k e'=>hoth k (by intro e'';subst e'';exact (h.s.b.apart t k e').1 hlive)),hw⟩,h.step hst rfl,by simpa using h.le⟩,hst⟩
def aC3 (j:Option Jump):Nat:=match j with|none=>0|some _=>2
theorem agS {ih:Ih} (hcode:∀ vc fr lo σ,IC P (aQ P Hn) vc fr lo σ (ih (.code vc) fr lo σ)) {l:Nat} {args:List V} {As:Array Value} {v:V} {b n:Nat} (ha:kK g args As.toList) (hw:Rw P (aQ P Hn) g σ w) (hr:g.ρ l=some (b,n))
  (e:rW ih l args σ=.val v σ'):Upon P (uS P Hn g σ w v σ') ((Instr.yield b As).run P w):=by
 unfold rW at e
 cases hg:getLoop σ l with
 |none=>rw [hg] at e;cases e
 |some lp =>
 rw [hg] at e;dsimp only at e
 generalize hq:Nat.beq lp.st 0=q at e
 cases q
 ·cases e
 simp only [cond_true] at e
 cases hp:sK lp.params args lp.fr with
 |none=>rw [hp] at e;cases e
 |some wX =>
 rw [hp] at e;dsimp only at e
 obtain ⟨b',n',L,k1,k2,k3,k4,k5,k6,⟨f,k7,k8,k9,k10⟩,k11,k12⟩:=hw.Io hg
 obtain ⟨rfl,rfl⟩:=Prod.mk.inj (gy (k1.symm.trans hr))
 rw [←k6] at hp
 obtain ⟨s1,s2⟩:=ag2 hp ha k5
 have hsz:As.size=L.params.size:=by simpa using s1
 rw [run_yield k2 hsz]
 have hfold:(L.params.zip As).foldl (fun tmps (t,a)=>tmps.setIfInBounds t a) L.tmps=(L.params.toList.zip As.toList).foldl (fun tmps p=>tmps.setIfInBounds p.1 p.2) L.tmps:=by
  rw [←Array.foldl_toList,Array.toList_zip]
 refine roundIn_of_wpIn (F:=Fw none) trivial ?_
 have hsc:=Sc.fresh (P:=P) (comp:=aQ P Hn) s2 hw
 rw [←hfold] at hsc
 cases ho:ih (.code lp.assign) wX [] σ with
 |fail=>rw [ho] at e;cases e
 |val _ _=>rw [ho] at e;cases e
 |jump _ _ _ _=>rw [ho] at e;cases e
 |norm bZ lo2 σ2 =>
 rw [ho] at e
 have hwp:=hcode lp.assign wX [] σ f L.assign (some b') w.heap.size g (fun _=>none) _ w k7 (fun _=>k9) hsc (by rw [ho];simp)
 rw [ho] at hwp
 refine wpIn_mono hwp fun ex a1 w1 hpost=>?_
 obtain ⟨E5,lo3,σ3,hout,g1,β1,hs1,hst1⟩:=hpost
 have aA5:Out.norm bZ lo2 σ2=Out.norm E5 lo3 σ3∧ex=.normal:=by
  rcases hout with h|⟨j,h,_⟩
  ·exact h
  ·cases h
 clear hout
 obtain ⟨hout,rfl⟩:=aA5
 simp only [Out.norm.injEq] at hout
 obtain ⟨rfl,rfl,rfl⟩:=hout
 simp only [Exit.then]
 unfold Dq at e
 dsimp only at e
 cases hg2:getLoop σ2 l with
 |none=>rw [hg2] at e;cases e
 |some lp2 =>
 rw [hg2] at e;dsimp only at e
 generalize hq2:Nat.beq lp2.st 0=q2 at e
 cases q2
 ·cases e
 simp only [cond_true] at e
 have aI0:=aJ hq2
 obtain ⟨b2,n2,L2,j1,j2,j3,j4,j5,j6,j7,j8,j9⟩:=hs1.s.w.Io hg2
 have hr1:=hst1.le.ρ l _ hr
 obtain ⟨rfl,rfl⟩:=Prod.mk.inj (gy (j1.symm.trans hr1))
 have ayh:L2.state=.ready:=by rw [j3,aI0];rfl
 refine ⟨_,run_beginRound j2 ayh,?_⟩
 obtain ⟨hs2,hst2⟩:=hs1.loop (l':=⟨1,lp2.pending,lp2.fr,lp2.params,lp2.assign,lp2.body⟩) (L':={ L2 with state:=.busy }) hg2 j1 j2 rfl j4 ⟨rfl,rfl,rfl,rfl⟩ ⟨rfl,rfl,rfl,rfl⟩
 have hne:ih (.code lp.body) bZ lo2 (setSt l 1 lp2.pending lp2 σ2)≠.fail:=by
  intro hf;rw [hf] at e;cases e
 have hbody:=hcode lp.body bZ lo2 (setSt l 1 lp2.pending lp2 σ2) f L.body (some b2) w.heap.size g1 β1 a1 _ k8 (fun _=>k10) hs2 hne
 refine wpIn_mono hbody fun ex a3 w3 hpost=>?_
 obtain ⟨ML,Pn,σ4,hout,g3,β3,hs3,hst3⟩:=hpost
 have hstp:=(hst1.trans hst2).trans hst3
 have fin:∀ (j:Option Jump) (lp4:zN),getLoop σ4 l=some lp4→v=.bool j.isNone→σ'=setSt l (aC3 j) j lp4 σ4 →
   ∃ x w',(Instr.endRound b2 (j.map Ej)).run P w3=.ok x w'∧uS P Hn g σ w v σ' x w':=by
  intro j lp4 hg4 hv hσ
  obtain ⟨b4,n4,L4,m1,m2,m3,m4,m5,m6,m7,m8,m9⟩:=hs3.s.w.Io hg4
  have hr3:=hstp.le.ρ l _ hr
  obtain ⟨rfl,rfl⟩:=Prod.mk.inj (gy (m1.symm.trans hr3))
  obtain ⟨hs5,hst5⟩:=hs3.loop (l':=⟨aC3 j,j,lp4.fr,lp4.params,lp4.assign,lp4.body⟩) (L':={ L4 with state:=if (j.map Ej).isNone then .ready else .done,pending:=j.map Ej }) hg4 m1 m2 (by cases j<;>rfl) rfl ⟨rfl,rfl,rfl,rfl⟩ ⟨rfl,rfl,rfl,rfl⟩
  refine ⟨_,_,run_endRound (j.map Ej) m2,g3,?_,?_,?_⟩
  ·rw [hv]
   have:(j.map Ej).isNone=j.isNone:=by cases j<;>rfl
   rw [this];exact .bool _
  ·rw [hσ];exact hs5.s.w
  ·rw [hσ];exact (hstp.trans hst5).drop
 rcases hout with ⟨hout,rfl⟩|⟨j,hout,rfl⟩
 ·rw [hout] at e
  simp only [um] at e
  cases hg4:getLoop σ4 l with
  |none=>rw [hg4] at e;cases e
  |some lp4 =>
   rw [hg4] at e
   simp only [Out.val.injEq] at e
   exact fin none lp4 hg4 e.1.symm e.2.symm
 ·rw [hout] at e
  simp only [um] at e
  cases hg4:getLoop σ4 l with
  |none=>rw [hg4] at e;cases e
  |some lp4 =>
   rw [hg4] at e
   simp only [Out.val.injEq] at e
   have:=fin (some j) lp4 hg4 e.1.symm e.2.symm
   cases j<;>exact this
theorem adM {ih:Ih} (hcall:∀ f args σ,nM P Hn f args σ (ih (.call f args) [] [] σ)) (hcode:∀ vc fr lo σ,IC P (aQ P Hn) vc fr lo σ (ih (.code vc) fr lo σ)) (fv:V) (args:List V) (σ:H):L6 P Hn fv args σ (Hg ih fv args [] [] σ):=by
 intro g X As w v σ' hf ha hw e
 cases fv<;>try (cases e;done)
 rename_i fn first caps
 cases hf with
 |@func _ fn' _ _ F C hfn h1 h2 h3 h4 =>
 have hF:kK g first F.toList:=⟨by simpa using h1,fun i v w a b=>h3 i v w a (by simpa using b)⟩
 have hC:kK g caps C.toList:=⟨by simpa using h2,fun i v w a b=>h4 i v w a (by simpa using b)⟩
 refine ⟨{ target:=.fn fn' C,args:=F++As },fun w=>by simp [Deferred.ofValue],?_⟩
 cases hfn with
 |func q =>
  have e':ih (.call q (first++(args++caps))) [] [] σ=.val v σ':=e
  have hall:kK g (first++(args++caps)) ((F++As)++C).toList:=by
   simpa using hF.append (ha.append hC)
  exact (hcall q (first++(args++caps)) σ).upon hall hw e'
 |@yield i b n hρ =>
  cases first with
  |cons a b=>cases e
  |nil =>
   have hF0:F=#[]:=by
    have:F.size=0:=by simpa using h1.symm
    exact Array.eq_empty_of_size_eq_zero this
   subst hF0
   have e':rW ih i args σ=.val v σ':=e
   have:=agS hcode ha hw hρ e'
   simpa [invoke] using this
end
section
variable {P:Program} {Hn:Hints} {w w' w'':World}
theorem strip {I:Machine→Prop} {m m₁ m₂:Machine} (h:StepsIn I P m m₂) (hs:Go.step P m=.next m₁) (hne:m≠m₂):StepsIn I P m₁ m₂:=by
 cases h with
 |refl=>exact absurd rfl hne
 |head hI hs' h' =>
  rw [hs] at hs'
  cases hs'
  exact h'
def Vd (m:Machine):Option (FrameMode×List Item):=(m.gs[0]?).map fun g=>(g.frame.mode,g.frame.todo)
theorem qM (fr:Frame) (cs:List Frame) (w:World):Vd (lone fr cs w)=some (fr.mode,fr.todo):=by simp [Vd,lone]
theorem qh {m m':Machine} (h:Vd m≠Vd m'):m≠m':=fun e=>h (by rw [e])
theorem Wy {id:Nat}:∀ {k k':List Item},exitTo id k=some k'→k'.length≤k.length:=by
 intro k
 induction k with
 |nil=>intro k' h;simp [exitTo] at h
 |cons x k ih =>
  intro k' h
  cases x<;>simp only [exitTo] at h<;>try exact Nat.le_succ_of_le (ih h)
  split at h
  ·cases h;simp
  ·exact Nat.le_succ_of_le (ih h)
theorem FK {c:Code}:∀ {d r:Code} {l:Nat},Go.findLabel d l=some r→r≠.loop c:=by
 intro d
 induction d with
 |seq a b iha ihb =>
  intro r l h
  simp only [Go.findLabel] at h
  cases ha:Go.findLabel a l with
  |some r'=>rw [ha] at h;cases h;simp
  |none=>rw [ha] at h;exact ihb h
 |label l'=>intro r l h;simp [Go.findLabel] at h;rw [←h.2];simp
 |_=>intro r l h;simp [Go.findLabel] at h
theorem Lu {c:Code} {l:Nat}:∀ {k k' q:List Item},gotoIn l k=some k'→k'≠.code (.loop c)::q:=by
 intro k
 induction k with
 |nil=>intro k' q h;simp [gotoIn] at h
 |cons x k ih =>
  intro k' q h
  cases x<;>simp only [gotoIn] at h<;>try exact ih h
  split at h
  ·rename_i r hr
   cases h
   intro e
   simp at e
   exact FK hr e.1
  ·exact ih h
theorem rM {F:Fence} {n:Nat} {c:Code} {Q:Exit→Act→World→Prop} {a:Act} (hQ:∀ a w,¬Q .outgrown a w) (h:c.wpIn F n P (Exit.then ((Code.loop c).wpIn F n P Q) Q) a w):(Code.loop c).wpIn F n P Q a w:=by
 intro b k cs hro hb hr
 obtain ⟨e,a₁,w₁,hq,harr⟩:=h b (.inLoop c::k) cs hro hb hr
 have h0:StepsIn (Machine.fenced P F) P (lone (b.atR a (.code (.loop c)::k)) cs w) (lone (b.atR a (.code c::.inLoop c::k)) cs w):=.one (fenced_calm hb hr rfl) stepR_loop
 cases e with
 |normal =>
  obtain ⟨e₂,a₂,w₂,hq₂,harr₂⟩:=hq b k cs hro hb hr
  have hin:StepsIn (Machine.fenced P F) P (lone (b.atR a₁ (.inLoop c::k)) cs w₁) (lone (b.atR a₁ (.code c::.inLoop c::k)) cs w₁):=.one (fenced_calm hb hr rfl) stepR_inLoop
  have pre:=(StepsIn.trans h0 harr).trans hin
  have hstep:Go.step P (lone (b.atR a₁ (.code (.loop c)::k)) cs w₁)=.next (lone (b.atR a₁ (.code c::.inLoop c::k)) cs w₁):=stepR_loop
  refine ⟨e₂,a₂,w₂,hq₂,.of_steps pre ?_⟩
  have ht:Vd (lone (b.atR a₁ (.code (.loop c)::k)) cs w₁)=some (.run,.code (.loop c)::k):=by rw [qM];rfl
  cases e₂ with
  |normal =>
   refine strip harr₂ hstep (qh ?_)
   rw [ht,qM]
   intro e
   have:=congrArg (fun o=>o.map fun p=>p.2.length) e
   simp [Frame.atR] at this
  |exit id =>
   refine ⟨fun k' hk=>strip (harr₂.1 k' hk) hstep (qh ?_),fun hr' hk=>?_⟩
   ·rw [ht,qM]
    intro e
    have h1:=congrArg (fun o=>o.map fun p=>p.2.length) e
    have h2:=Wy hk
    simp [Frame.atR] at h1
    omega
   ·obtain ⟨k₁,h1,h2⟩:=harr₂.2 hr' hk
    refine ⟨k₁,h1,strip h2 hstep (qh ?_)⟩
    rw [ht,qM]
    intro e
    simp [Frame.atR] at e
  |goto l =>
   refine ⟨fun k' hk=>strip (harr₂.1 k' hk) hstep (qh ?_),fun hr' hk=>?_⟩
   ·rw [ht,qM]
    intro e
    simp only [aC,Prod.mk.injEq] at e
    exact Lu hk e.2.symm
   ·obtain ⟨k₁,h1,h2⟩:=harr₂.2 hr' hk
    refine ⟨k₁,h1,strip h2 hstep (qh ?_)⟩
    rw [ht,qM]
    intro e
    simp [Frame.atR] at e
  |ret =>
   refine ⟨fun hr'=>?_,fun hr'=>?_⟩
   ·obtain ⟨todo,h1⟩:=harr₂.1 hr'
    refine ⟨todo,strip h1 hstep (qh ?_)⟩
    rw [ht,qM]
    intro e
    simp at e
   ·obtain ⟨k₁,h2⟩:=harr₂.2 hr'
    refine ⟨k₁,strip h2 hstep (qh ?_)⟩
    rw [ht,qM]
    intro e
    simp [Frame.atR] at e
  |panic ch =>
   obtain ⟨todo,h1⟩:=harr₂
   refine ⟨todo,strip h1 hstep (qh ?_)⟩
   rw [ht,qM]
   intro e
   simp at e
  |outgrown=>exact absurd hq₂ (hQ _ _)
 |exit id=>exact ⟨_,a₁,w₁,hq,.of_steps h0 (.pass (x:=.inLoop c) rfl (fun _ _=>.inl (by simp)) harr)⟩
 |goto l=>exact ⟨_,a₁,w₁,hq,.of_steps h0 (.pass (x:=.inLoop c) rfl (fun _ _=>.inl (by simp)) harr)⟩
 |ret=>exact ⟨_,a₁,w₁,hq,.of_steps h0 (.pass (x:=.inLoop c) rfl (fun _ _=>.inl (by simp)) harr)⟩
 |panic ch=>exact ⟨_,a₁,w₁,hq,.of_steps h0 (.pass (x:=.inLoop c) rfl (fun _ _=>.inl (by simp)) harr)⟩
 |outgrown=>exact absurd hq (hQ _ _)
end
end Go.Vx
