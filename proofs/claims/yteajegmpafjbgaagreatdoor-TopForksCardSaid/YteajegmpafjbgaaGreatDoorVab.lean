/- A part of the proof of TopForks. -/
import Derived.Laws.Cells
import Derived.Laws.Tables
import Derived.Laws.CopyRow
import Derived.Maps.Range
import Derived.Laws.IdiomStrings
import Derived.Laws.BytesArg
import Derived.Test.YteajegmpafjbgaaGreatDoorVaa
set_option linter.all false
set_option maxRecDepth 1000000
set_option maxHeartbeats 80000000
noncomputable section
open Go Go.RowKit
namespace Go.Vx
section
variable {P:Program}{comp:FuncId->Code->aN}{g g':G}{σ σ':H}{w w':World}{β:Nat->Option Nat}{lo lo':Lo}{fr:List V}{A:Act}
def oh(b o n:Nat):(⟨b,o,none⟩:Addr).add n=⟨b,o+n,none⟩:=by
 unfold Addr.add;by_cases h:n=0
 .subst h;simp
 .simp[h]
def Hr(hb:Rb g σ β lo w)(hw:Rw P comp g σ w){v:V}{X:Value}{cs:List V}(hr:Rs g β v X)(e:aF v lo σ=some cs) :
  ∃b o,X=.pointer (some ⟨b,o,none⟩)/\∀(j:Nat) (c:V),cs[j]?=some c->∃x,w.cell? ⟨b,o+j,none⟩=some x/\Rv g c x:=by
 cases v with
 |aY t off =>
  simp only[aF]at e;obtain⟨b,hbt,rfl⟩:=hr
  split at e<;>try cases e
  rename_i cs' hl;obtain⟨cs'',c,ty,h1,h2,h3,h4⟩:=hb.boxes t b hbt;rw[hl]at h1;cases h1;refine⟨b,off,rfl,λj x hx=>?_⟩;rw[xF,jm]at hx;obtain⟨z,hz,CV⟩:=h4 _ _ hx;exact⟨z,by rw[xK h2];exact hz,CV⟩
 |bg i off =>
  simp only[aF]at e;cases hr with
  |bg _ D8 =>
  split at e<;>try cases e
  rename_i cs' hl;obtain⟨b1,n1,c,ty,r,h2,_,_,h4,_,_⟩:=hw.cells hl;rw[r]at D8;cases D8;refine⟨_,off,rfl,λj x hx=>?_⟩;rw[xF,jm]at hx;obtain⟨z,hz,CV⟩:=h4 _ _ hx;exact⟨z,by rw[xK h2];exact hz,CV⟩
 |iE cs' =>
  simp only[aF,aG]at e;subst e;cases hr with
  |iE vs h1 h2 =>
  exact⟨_,_,rfl,λj x hx=>⟨vs j,hw.frozen _ _ _ (h1 j x hx),h2 j x hx⟩⟩
 |_=>simp[aF]at e
def yZ{t:TypeId}{b:Bool}(h:JW P t=some b):(isAgg t).run P w=.ok b w:=by
 unfold JW at h;cases hu:P.underlying t with
 |none=>simp[hu]at h
 |some d =>
  unfold isAgg;rw[aH,run_underlying hu];cases d<;>simp[hu]at h<;>subst h<;>rfl
def jl{t:TypeId}{n:Nat}(h:lY P t=some n):(sizeOf t).run P w=.ok n w:=by
 unfold lY at h;cases hi:P.info? t with
 |none=>simp[hi]at h
 |some info=>simp[hi]at h;simp[sizeOf,typeInfo,program,Sem.run,hi,Result.andThen,h]
def aaF{d:Nat}{o:Oper}{x:Operand}{y:aC}{t:TypeId}(ha:JW P t=some false)(hx:bQ x=some y)(ho:o.op=.load t x):Sound P comp d (.qR y) o:=by
 intro g β σ lo fr A w v lo' σ' h e;simp only[aK,vO]at e
 split at e<;>try cases e
 rename_i cs hc;cases cs with
 |nil=>cases e
 |cons c cs' =>
 simp only[OR.ok.injEq]at e;obtain⟨rfl,rfl,rfl⟩:=e;obtain⟨b,off,hX,hcell⟩:=Hr h.b h.w (Rs.ev h.f hx) hc;obtain⟨z,hz,CV⟩:=hcell 0 c rfl;refine .pure h (x:=z) ?_ (.dK CV);have hz':w.cell? ⟨b,off,none⟩=some z:=hz;simp only[execOp,ho,Instr.loadAt,hX,Instr.sureAddr];rw[aH,aH,Sem.run_pure,Result.andThen,loadVar,aH,yZ ha];simp[Result.andThen,hz']
def aaG{d:Nat}{o:Oper}{x:Operand}{y:aC}{t:TypeId}{n:Nat}(ha:JW P t=some true)(hn:lY P t=some n)(hx:bQ x=some y)(ho:o.op=.load t x):Sound P comp d (.qI n y) o:=by
 intro g β σ lo fr A w v lo' σ' h e;simp only[aK,vP]at e
 split at e<;>try cases e
 rename_i cs hc
 split at e<;>try cases e
 rename_i r hr;obtain⟨b,off,hX,hcell⟩:=Hr h.b h.w (Rs.ev h.f hx) hc;obtain⟨hlen,rfl⟩:=pK hr;have hcell':∀j,j<n->∃z,w.cell? ⟨b,off+j,none⟩=some z/\∀c,cs[j]?=some c->Rv g c z:=by
  intro j hj;obtain⟨z,hz,CV⟩:=hcell j cs[j] (bV (by omega));exact⟨z,hz,λc hc'=>by rw[bV (by omega)]at hc';cases hc';exact CV⟩
 have alx:∃f:Nat->Value,∀j,j<n->w.cell? ⟨b,off+j,none⟩=some (f j)/\∀c,cs[j]?=some c->Rv g c (f j):=by
  refine⟨λj=>if hj:j<n then(hcell' j hj).choose else undef,λj hj=>?_⟩;simp only[hj,dif_pos];exact(hcell' j hj).choose_spec
 obtain⟨f,hf⟩:=alx;have hrun:=run_loadCells (P:=P) w ⟨b,off,none⟩ n f (λj hj=>by rw[oh];exact(hf j hj).1);refine .pure h (x:=.agg ((List.range n).map f).toArray) ?_ (.dK (.Qg ?_))
 .simp only[execOp,ho,Instr.loadAt,hX,Instr.sureAddr];rw[aH,aH,Sem.run_pure,Result.andThen,loadVar,aH,yZ ha];simp only[Result.andThen,if_true];simp only[aH,jl hn,Result.andThen,hrun];rfl
 .refine⟨by simp;omega,λj c z hc' hz=>?_⟩;simp[jd]at hc';obtain⟨hj,hc'⟩:=hc';have:(List.range n)[j]?=some j:=by simp[hj]
  simp[this]at hz;subst hz;exact(hf j hj).2 c hc'
def LG{t:TypeId}{i off sz:Nat}{ag:Bool}(h:JX P t i=some (off,ag,sz)):∃fs f,P.underlying t=some (.struct fs)/\fs[i]?=some f/\f.offset=off/\JW P f.type=some ag/\lY P f.type=some sz:=by
 unfold JX at h;cases hu:P.underlying t with
 |none=>simp[hu]at h
 |some d =>
  cases d<;>simp[hu]at h;rename_i fs;cases hf:fs[i]? with
  |none=>simp[hf]at h
  |some f =>
   simp[hf]at h;cases ha:JW P f.type with
   |none=>simp[ha]at h
   |some a =>
    cases hs:lY P f.type with
    |none=>simp[ha,hs]at h
    |some s=>simp[ha,hs]at h;obtain⟨rfl,rfl,rfl⟩:=h;exact⟨fs,f,rfl,hf,rfl,ha,hs⟩
def Rv.agV{cs:List V}{X:Value}(h:Rv g (.iE cs) X)(n:Nat):∃b o,X=.pointer (some ⟨b,o,none⟩)/\Rv g (.iE (skip n cs)) (.pointer (some ⟨b,o+n,none⟩)):=by
 cases h with
 |iE vs h1 h2 =>
  refine⟨_,_,rfl,.iE (λj=>vs (n+j)) (λj c hc=>?_) (λj c hc=>?_)⟩
  .rw[xF,jm]at hc;rw[gq];exact h1 _ _ hc
  .rw[xF,jm]at hc;exact h2 _ _ hc
def Ns{d:Nat}{o:Oper}{x:Operand}{y:aC}{t:TypeId}{i off sz:Nat}{ag:Bool}(hf:JX P t i=some (off,ag,sz))(hz:sz≠0)(hx:bQ x=some y)(ho:o.op=.fieldAddr t x i) :
  Sound P comp d (.fieldAddr off y) o:=by
 obtain⟨fs,f,hu,hfi,hoff,_,hs⟩:=LG hf;intro g β σ lo fr A w v lo' σ' h e;have hr:=Rs.ev h.f hx;have hrun:∀b p,A.eval x=.pointer (some ⟨b,p,none⟩)->(execOp A.eval o).run P w=.ok (.value (.pointer (some ⟨b,p+off,none⟩))) w:=by
  intro b p hX;simp only[execOp,ho,Instr.fieldAt,hX,Instr.sureAddr];rw[aH,aH,run_underlying hu];simp only[Result.andThen,hfi];simp only[aH,Sem.run_pure,Result.andThen,fieldPlace,jl hs,hz,if_false];rw[oh,hoff]
 simp only[aK,jD]at e;generalize hv:y.ev fr=vx at e hr;cases vx with
 |aY u p =>
  simp only[OR.ok.injEq]at e;obtain⟨rfl,rfl,rfl⟩:=e;obtain⟨b,hb,hX⟩:=hr;exact .pure h (hrun b p hX) ⟨b,hb,rfl⟩
 |bg u p =>
  simp only[OR.ok.injEq]at e;obtain⟨rfl,rfl,rfl⟩:=e;generalize hq:A.eval x=q at hr;cases hr with
  |bg _ D8=>exact .pure h (hrun _ p hq) (.dK (.bg _ D8))
 |iE cs =>
  simp only[OR.ok.injEq]at e;obtain⟨rfl,rfl,rfl⟩:=e;obtain⟨b,p,hX,hk⟩:=Rv.agV (g:=g) hr off;exact .pure h (hrun b p hX) (.dK hk)
 |_=>cases e
def Xn{d:Nat}{o:Oper}{x i:Operand}{x' i':aC}{t el:TypeId}{n sz:Nat}(hu:P.underlying t=some (.array n el))(hs:lY P el=some sz)(hx:bQ x=some x')(hi:bQ i=some i')(ho:o.op=.indexAddr t x i) :
  Sound P comp d (.wS sz n x' i') o:=by
 intro g β σ lo fr A w v lo' σ' h e;have hr:=Rs.ev h.f hx;have D8:=Rs.ev h.f hi;simp only[aK,xU]at e;generalize hv:x'.ev fr=vx at e hr;generalize hvi:i'.ev fr=vi at e D8;cases vi<;>try (cases e;done)
 rename_i k m;cases m with
 |negSucc m=>cases e
 |ofNat m =>
 dsimp only at e;generalize hq:Nat.blt m n=q at e;cases q
 .cases e
 have hlt:=vg hq;have hI:=jL D8 rfl;have hrun:∀b p,A.eval x=.pointer (some ⟨b,p,none⟩)->(execOp A.eval o).run P w=.ok (.value (.pointer (some ⟨b,p+m*sz,none⟩))) w:=by
  intro b p hX;simp only[execOp,ho,Instr.indexAt,hX,hI,asIntOf];rw[aH,aH,Sem.run_pure];simp only[Result.andThen];simp only[aH,run_underlying hu,Result.andThen,Instr.sureAddr,Sem.run_pure];have h0:(0:Int)<=Int.ofNat m/\Int.ofNat m<(n:Int):=⟨Int.natCast_nonneg m,by simpa using hlt⟩;simp only[if_pos h0,aH,jl hs,Result.andThen,Sem.run_pure];have:(Int.ofNat m).toNat=m:=rfl;rw[this,oh]
 dsimp only[cond_true]at e;cases vx with
 |aY u p =>
  simp only[OR.ok.injEq]at e;obtain⟨rfl,rfl,rfl⟩:=e;obtain⟨b,hb,hX⟩:=hr;exact .pure h (hrun b p hX) ⟨b,hb,rfl⟩
 |bg u p =>
  simp only[OR.ok.injEq]at e;obtain⟨rfl,rfl,rfl⟩:=e;generalize hq2:A.eval x=q at hr;cases hr with
  |bg _ aCv=>exact .pure h (hrun _ p hq2) (.dK (.bg _ aCv))
 |_=>cases e
end
section
variable {P:Program}{comp:FuncId->Code->aN}{g g':G}{σ σ':H}{w w':World}{β:Nat->Option Nat}{lo lo':Lo}{fr:List V}{A:Act}
def Sz{d:Nat}{o:Oper}{x i:Operand}{x' i':aC}{t el:TypeId}{sz:Nat}(hu:P.underlying t=some (.slice el))(hs:lY P el=some sz)(hx:bQ x=some x')(hi:bQ i=some i')(ho:o.op=.indexAddr t x i) :
  Sound P comp d (.ji sz x' i') o:=by
 intro g β σ lo fr A w v lo' σ' h e;have hr:=Rs.ev h.f hx;have D8:=Rs.ev h.f hi;simp only[aK,iG]at e;generalize hv:x'.ev fr=vx at e hr;generalize hvi:i'.ev fr=vi at e D8;cases vi<;>try (cases e;done)
 rename_i k m;cases m with
 |negSucc m=>cases e
 |ofNat m =>
 have hI:=jL D8 rfl;have hrun:∀b p len c,A.eval x=.slice (some ⟨b,p,none⟩) len c->m<len->(execOp A.eval o).run P w=.ok (.value (.pointer (some ⟨b,p+m*sz,none⟩))) w:=by
  intro b p len c hX hlt;simp only[execOp,ho,Instr.indexAt,hX,hI,asIntOf];rw[aH,aH,Sem.run_pure];simp only[Result.andThen];simp only[aH,run_underlying hu,Result.andThen,Sem.run_pure];have h0:(0:Int)<=Int.ofNat m/\Int.ofNat m<(len:Int):=⟨Int.natCast_nonneg m,by simpa using hlt⟩;simp only[if_pos h0,aH,jl hs,Result.andThen,Sem.run_pure];have:(Int.ofNat m).toNat=m:=rfl;rw[this,oh]
 cases vx with
 |list xs ex =>
  dsimp only at e;rw[P8]at e;cases hg:xs[m]? with
  |none=>rw[hg]at e;cases e
  |some z =>
   rw[hg]at e;dsimp only at e;generalize hq:Nat.beq z.cells.length sz=q at e;cases q
   .cases e
   simp only[cond_true,OR.ok.injEq]at e;obtain⟨rfl,rfl,rfl⟩:=e;have hz:=aP hq;generalize hX:A.eval x=X at hr;cases hr with
   |list k' vs hk hc he _ h1 h2 =>
    have hk':k'=sz:=by rw[<- hk z (lK hg)];exact hz
    subst hk';exact .pure h (hrun _ _ _ _ hX (fB.1 hg).1) (.dK (.iE (λj=>vs m j) (λj c hc'=>h1 m z j c hg hc') (λj c hc'=>h2 m z j c hg hc')))
 |hsl id off len cap s =>
  dsimp only at e;generalize hq:Nat.blt m len=q at e;cases q
  .cases e
  simp only[cond_true,OR.ok.injEq]at e;obtain⟨rfl,rfl,rfl⟩:=e;generalize hX:A.eval x=X at hr;cases hr with
  |hsl hr1 hl hc hn=>exact .pure h (hrun _ _ _ _ hX (vg hq)) (.dK (.bg _ hr1))
 |_=>cases e
def afb{ag:Bool}{oc:Option (List V)}{v:V}(h:mk ag oc=some v):∃cs,oc=some cs/\((ag=true/\v=.agg cs)\/(ag=false/\cs=[v])):=by
 cases oc with
 |none=>simp[mk]at h
 |some cs =>
  refine⟨cs,rfl,?_⟩;cases ag
  .simp only[mk,cond_false]at h
   split at h
   .simp at h;subst h;exact .inr ⟨rfl,rfl⟩
   .cases h
  .simp[mk]at h;exact .inl ⟨rfl,h.symm⟩
def afx{t:TypeId}{ag:Bool}{sz off:Nat}(ha:JW P t=some ag)(hs:lY P t=some sz){cs:List V}{C:Array Value}(hr:lW g cs C.toList){v:V}(e:mk ag (takeN sz (skip off cs))=some v) :
  ∃x,(part t C off).run P w=.ok x w/\Rv g v x:=by
 obtain⟨r,hr1,hv⟩:=afb e;obtain⟨hlen,rfl⟩:=pK hr1;rw[xF]at hlen hv;rcases hv with⟨rfl,rfl⟩|⟨rfl,hv⟩
 .refine⟨.agg (C.extract off (off+sz)),?_,.Qg ⟨?_,λj c z hc hz=>?_⟩⟩
  .simp only[part,aH,yZ ha,jl hs,Result.andThen,if_true,Sem.run_pure]
  .have:=hr.1;simp at this hlen|-;omega
  .simp[jd,jm]at hc;have hz':C.toList[off+j]?=some z:=by
    simp[jd,jm]at hz;simpa using hz.2
   exact hr.2 _ _ _ hc.2 hz'
 .have hg:cs[off]?=some v:=by
   have:(List.take sz (List.drop off cs))[0]?=some v:=by rw[hv];rfl
   simp[jd]at this;exact this.2
  obtain⟨z,hz,CV⟩:=hr.get hg;refine⟨z,?_,CV⟩;have hz':C[off]?=some z:=by simpa using hz
  simp only[part,aH,yZ ha,Result.andThen,hz'];rfl
def aaD{d:Nat}{o:Oper}{x:Operand}{y:aC}{t:TypeId}{i off sz:Nat}{ag:Bool}(hf:JX P t i=some (off,ag,sz))(hx:bQ x=some y)(ho:o.op=.field t x i):Sound P comp d (.field ag off sz y) o:=by
 obtain⟨fs,f,hu,hfi,hoff,ha,hs⟩:=LG hf;intro g β σ lo fr A w v lo' σ' h e;have hr:=Rs.ev h.f hx;simp only[aK,qL]at e;generalize hv:y.ev fr=vx at e hr;cases vx<;>try (cases e;done)
 rename_i cs;obtain⟨e1,rfl,rfl⟩:=Dl e;obtain⟨C,hC,hCs⟩:=Rv.Nw (g:=g) hr;obtain⟨z,hz,CV⟩:=afx (P:=P) (w:=w) ha hs hCs e1;refine .pure h (x:=z) ?_ (.dK CV);simp only[execOp,ho,Instr.field,hC];simp only[aH,run_underlying hu,Result.andThen,hfi,asAgg,Sem.run_pure,hoff,hz]
def Xo{d:Nat}{o:Oper}{x i:Operand}{x' i':aC}{t el:TypeId}{n sz:Nat}{ag:Bool}(hu:P.underlying t=some (.array n el))(ha:JW P el=some ag)(hs:lY P el=some sz)(hx:bQ x=some x')(hi:bQ i=some i')(ho:o.op=.index t x i) :
  Sound P comp d (.uw ag sz n x' i') o:=by
 intro g β σ lo fr A w v lo' σ' h e;have hr:=Rs.ev h.f hx;have D8:=Rs.ev h.f hi;simp only[aK,mg]at e;generalize hv:x'.ev fr=vx at e hr;generalize hvi:i'.ev fr=vi at e D8;cases vx<;>try (cases e;done)
 rename_i cs;cases vi<;>try (cases e;done)
 rename_i k m;cases m with
 |negSucc m=>cases e
 |ofNat m =>
 dsimp only at e;generalize hq:Nat.blt m n=q at e;cases q
 .cases e
 have hI:=jL D8 rfl;obtain⟨e1,rfl,rfl⟩:=Dl e;obtain⟨C,hC,hCs⟩:=Rv.Nw (g:=g) hr;obtain⟨z,hz,CV⟩:=afx (P:=P) (w:=w) ha hs hCs e1;refine .pure h (x:=z) ?_ (.dK CV);have h0:(0:Int)<=Int.ofNat m/\Int.ofNat m<(n:Int):=⟨Int.natCast_nonneg m,by simpa using vg hq⟩;simp only[execOp,ho,Instr.index,hC,hI,asIntOf];simp only[aH,Sem.run_pure,Result.andThen,run_underlying hu,if_pos h0,jl hs];have:(Int.ofNat m).toNat=m:=rfl;rw[this,hz]
def Jy{d:Nat}{o:Oper}{x y:Operand}{x' y':aC}{b:Bool}{ats:Array TypeId}(hx:bQ x=some x')(hy:bQ y=some y')(ho:o.op=.call { callee:=.builtin (if b then .max else .min),args:=#[x,y],argTypes:=ats }) :
  Sound P comp d (if b then .max x' y' else .min x' y') o:=by
 intro g β σ lo fr A w v lo' σ' h e;have hr:=Rs.ev h.f hx;have D8:=Rs.ev h.f hy;cases b
 .simp only[aK,zK,Bool.false_eq_true,if_false]at e;generalize hv:x'.ev fr=vx at e hr;generalize hvi:y'.ev fr=vy at e D8;cases vx<;>try (cases e;done)
  rename_i k a;cases vy<;>try (cases e;done)
  rename_i k' c;simp only[OR.ok.injEq]at e;obtain⟨rfl,rfl,rfl⟩:=e;have h1:=jL hr rfl;have h2:=jL D8 rfl;refine .pure h (x:=.int k (if c<a then c else a)) ?_ ?_
  .simp[execOp,ho,h1,h2,resolve,invoke,builtin,Builtin.min_,Builtin.min2]
  .rw[vH];by_cases hq:c<a<;>simp[hq]<;>exact .dK (.int _ _)
 .simp only[aK,zJ,if_true]at e;generalize hv:x'.ev fr=vx at e hr;generalize hvi:y'.ev fr=vy at e D8;cases vx<;>try (cases e;done)
  rename_i k a;cases vy<;>try (cases e;done)
  rename_i k' c;simp only[OR.ok.injEq]at e;obtain⟨rfl,rfl,rfl⟩:=e;have h1:=jL hr rfl;have h2:=jL D8 rfl;refine .pure h (x:=.int k (if c > a then c else a)) ?_ ?_
  .simp[execOp,ho,h1,h2,resolve,invoke,builtin,Builtin.max_,Builtin.max2]
  .rw[vH];by_cases hq:a<c<;>simp[hq]<;>exact .dK (.int _ _)
end
section
variable {P:Program}{comp:FuncId->Code->aN}{g g':G}{σ σ':H}{w w':World}{β:Nat->Option Nat}{lo lo':Lo}{fr:List V}{A:Act}
def Xu:∀{vs cs r:List V},bC cs vs=some r->vs.length<=cs.length/\r=vs++cs.drop vs.length:=by
 intro vs
 induction vs with
 |nil=>intro cs r h;cases cs<;>simp[bC]at h<;>subst h<;>simp
 |cons v vs ih =>
  intro cs r h;cases cs with
  |nil=>simp[bC]at h
  |cons c cs =>
   simp only[bC]at h;cases hq:bC cs vs with
   |none=>simp[hq]at h
   |some q=>simp[hq]at h;subst h;obtain⟨h1,h2⟩:=ih hq;subst h2;simp;omega
def ML:∀{n:Nat} {cs vs r:List V},splice n cs vs=some r->n+vs.length<=cs.length/\r=cs.take n++vs++cs.drop (n+vs.length):=by
 intro n
 induction n with
 |zero=>intro cs vs r h;simp only[splice]at h;obtain⟨h1,h2⟩:=Xu h;exact⟨by omega,by simpa using h2⟩
 |succ n ih =>
  intro cs vs r h;cases cs with
  |nil=>simp[splice]at h
  |cons c cs =>
   simp only[splice]at h;cases hq:splice n cs vs with
   |none=>simp[hq]at h
   |some q=>simp[hq]at h;subst h;obtain⟨h1,h2⟩:=ih hq;subst h2;simp[Nat.add_right_comm n 1];omega
def lW.splice{cs vs r:List V}{C W:List Value}{n:Nat}(hc:lW g cs C)(hv:lW g vs W)(h:splice n cs vs=some r):n+W.length<=C.length/\lW g r (C.take n++W++C.drop (n+W.length)):=by
 obtain⟨h1,rfl⟩:=ML h;refine⟨by rw[<- hc.1,<- hv.1];exact h1,?_⟩;have ht:lW g (cs.take n) (C.take n):=⟨by simp[hc.1],λi v w a b=>by
  simp[jd]at a b;exact hc.2 i v w a.2 b.2⟩
 have hd:lW g (cs.drop (n+vs.length)) (C.drop (n+W.length)):=⟨by simp[hc.1,hv.1],λi v w a b=>by
  simp[jm]at a b;rw[hv.1]at a;exact hc.2 _ v w a b⟩
 exact(ht.append hv).append hd
def SG{α:Type}(l:List α)(i:Nat)(v:α)(h:i<l.length):(l.set i v).take (i+1)=l.take i++[v]:=by
 rw[List.take_succ_eq_append_getElem (by simpa using h)];congr 1
 .apply List.ext_getElem?;intro j;simp only[jd,List.getElem?_set];by_cases h1:j<i
  .have:¬i=j:=by omega
   simp[h1,this]
  .simp[h1]
 .simp
def Yn{α:Type}(l:List α)(i n:Nat)(v:α)(h:i<n):(l.set i v).drop n=l.drop n:=by
 apply List.ext_getElem?;intro j;simp only[jm,List.getElem?_set];have:¬i=n+j:=by omega
 simp[this]
def foldl_set(off:Nat):∀(vs:List Value) (k:Nat) (C:Array Value),off+k+vs.length<=C.size ->
  ((vs.zipIdx k).foldl (λcs (c,j)=>cs.setIfInBounds (off+j) c) C).toList=C.toList.take (off+k)++vs++C.toList.drop (off+k+vs.length):=by
 intro vs
 induction vs with
 |nil=>intro k C h;simp
 |cons v vs ih =>
  intro k C h;simp only[bP]at h;simp only[List.zipIdx_cons,List.foldl_cons];rw[ih (k+1) _ (by simp;omega)];simp only[Array.toList_setIfInBounds];rw[show off+(k+1)=off+k+1 by omega,SG _ _ _ (by simp;omega),Yn _ _ _ _ (by omega)];have:off+k+1+vs.length=off+k+(vs.length+1):=by omega
  rw[this];simp only[fP,dZ,je,bP]
def Vy(hf:Ap g β fr A.tmps)(place:Nat->Option (Nat×Nat)):∀(ps:List (Nat×Nat×aC)) (qs:List (Nat×Operand)) (cs cs':List V) (C:Array Value),
  (ps.length=qs.length/\∀(j:Nat) p q,ps[j]?=some p->qs[j]?=some q->place q.1=some (p.1,p.2.1)/\bQ q.2=some p.2.2)->lW g cs C.toList->fill cs ps fr=some cs' ->
  ∃C',Instr.fill place C (qs.map λq=>(q.1,A.eval q.2))=some C'/\lW g cs' C'.toList:=by
 intro ps
 induction ps with
 |nil =>
  intro qs cs cs' C hq hr e;cases qs with
  |cons q qs=>simp at hq
  |nil=>simp[fill]at e;subst e;exact⟨C,rfl,hr⟩
 |cons p ps ih =>
  intro qs cs cs' C hq hr e;cases qs with
  |nil=>simp at hq
  |cons q qs =>
   obtain⟨off,sz,x⟩:=p;obtain⟨hp,hx⟩:=hq.2 0 _ _ rfl rfl;have hrx:=Rs.ev hf hx;have hrest:ps.length=qs.length/\∀(j:Nat) p q,ps[j]?=some p->qs[j]?=some q->place q.1=some (p.1,p.2.1)/\bQ q.2=some p.2.2 :=
    ⟨by simpa using hq.1,λj p q a b=>hq.2 (j+1) p q (by simpa using a) (by simpa using b)⟩
   simp only[fill]at e;generalize hv:x.ev fr=vx at e hrx;have fin:∀v,v≠.undef->Rv g v (A.eval q.2)->(bif Nat.beq v.cells.length sz then(match splice off cs v.cells with|some cs=>fill cs ps fr|none=>none)else none)=some cs' ->
     ∃C',Instr.fill place C ((q::qs).map λq=>(q.1,A.eval q.2))=some C'/\lW g cs' C'.toList:=by
    intro v hu RD e;generalize hb:Nat.beq v.cells.length sz=b at e;cases b
    .cases e
    simp only[cond_true]at e;have hsz:=aP hb;cases hs:splice off cs v.cells with
    |none=>rw[hs]at e;cases e
    |some r =>
     rw[hs]at e;dsimp only at e;have hcells:=RD.cells hu;obtain⟨hlen,hrr⟩:=lW.splice hr hcells hs;have hl:(A.eval q.2).cells.size=sz:=by rw[<- hsz,hcells.1];simp
     have hfold:=foldl_set off (A.eval q.2).cells.toList 0 C (by simpa using hlen);have avV:((A.eval q.2).cells.zipIdx.foldl (λcs (c,j)=>cs.setIfInBounds (off+j) c) C).toList=C.toList.take off++(A.eval q.2).cells.toList++C.toList.drop (off+(A.eval q.2).cells.toList.length):=by
      rw[<- Array.foldl_toList,Array.toList_zipIdx];simpa using hfold
     obtain⟨C',h1,h2⟩:=ih qs r cs' ((A.eval q.2).cells.zipIdx.foldl (λcs (c,j)=>cs.setIfInBounds (off+j) c) C) hrest (by rw[avV];exact hrr) e;refine⟨C',?_,h2⟩;simp only[bD,Instr.fill,hp];rw[if_neg]
     .exact h1
     .simp only[hl,ne_eq,not_true_eq_false,decide_false,Bool.false_or,decide_eq_true_eq];have:off+(A.eval q.2).cells.size<=C.size:=by simpa using hlen
      omega
   cases vx with
   |aY _ _=>cases e
   |undef=>cases e
   |_=>exact fin _ (by simp) hrx e
end
section
variable {P:Program}{comp:FuncId->Code->aN}{g g':G}{σ σ':H}{w w':World}{β:Nat->Option Nat}{lo lo':Lo}{fr:List V}{A:Act}
def mapM_some{α γ:Type}(f:α->Option γ):∀{l:List α} {r:List γ},l.mapM f=some r->r.length=l.length/\∀(j:Nat) a b,l[j]?=some a->r[j]?=some b->f a=some b:=by
 intro l
 induction l with
 |nil=>intro r h;simp at h;subst h;exact⟨rfl,λj a b h=>by simp at h⟩
 |cons x xs ih =>
  intro r h;simp only[List.mapM_cons,jc,jR]at h;cases hx:f x with
  |none=>simp[hx]at h
  |some y =>
   cases hxs:xs.mapM f with
   |none=>simp[hx,hxs]at h
   |some ys =>
    simp[hx,hxs]at h;subst h;obtain⟨h1,h2⟩:=ih hxs;refine⟨by simp[h1],λj a b ha hb=>?_⟩;cases j with
    |zero=>simp at ha hb;subst ha hb;exact hx
    |succ j=>simp at ha hb;exact h2 j a b ha hb
def OB{t:TypeId}{z:V}(h:nR P t=some z):∃it Z,P.info? t=some it/\it.zero=some Z/\z=cV 5 Z/\z≠.undef:=by
 unfold nR at h;cases hi:P.info? t with
 |none=>simp[hi]at h
 |some it =>
  cases hz:it.zero with
  |none=>simp[hi,hz]at h
  |some Z =>
   simp only[hi,hz,jc,Option.bind_some]at h;refine⟨it,Z,rfl,hz,?_,?_⟩
   .split at h
    .cases h
    .simpa using h.symm
   .split at h
    .cases h
    .rename_i hn;simp at h;subst h;exact hn
def mX{t:TypeId}{z:V}(h:nR P t=some z):∃it Z,P.info? t=some it/\it.zero=some Z/\lW g z.cells Z.cells.toList:=by
 obtain⟨it,Z,h1,h2,rfl,h3⟩:=OB h;exact⟨it,Z,h1,h2,(Rv.cV 5 g Z).cells h3⟩
def MI{d:Nat}{o:Oper}{t:TypeId}{ps:Array (Nat×Operand)}{z:V}{vps:List (Nat×Nat×aC)}(hz:nR P t=some z)(ho:o.op=.build t ps)
  (hps:(∃fs places,P.underlying t=some (.struct fs)/\fs.toList.mapM (λf=>(P.info? f.type).map λi=>(f.offset,i.size))=some places /\
    ps.toList.mapM (λ(q:Nat×Operand)=>do let p <- places[q.1]?;let x <- bQ q.2;pure (p.1,p.2,x))=some vps) \/
   (∃n e s,P.underlying t=some (.array n e)/\lY P e=some s/\ps.toList.mapM (λ(q:Nat×Operand)=>do let x <- bQ q.2;pure (q.1*s,s,x))=some vps)) :
  Sound P comp d (.build z.cells vps) o:=by
 intro g β σ lo fr A w v lo' σ' h e;obtain⟨it,Z,hit,hZ,hzc⟩:=mX (g:=g) hz;simp only[aK,xE]at e
 split at e<;>try cases e
 rename_i cs hcs;have key:∃C,P.built t (ps.toList.map λq=>(q.1,A.eval q.2))=some C/\lW g cs C.toList:=by
  rcases hps with⟨fs,places,hu,hpl,aly⟩|⟨n,el,s,hu,hs,aly⟩
  .obtain⟨hl,hall⟩:=mapM_some _ aly;obtain⟨C,h1,h2⟩:=Vy h.f (places.toArray[·]?) vps ps.toList z.cells cs Z.cells ⟨hl,λj p q hp hq=>by
    have:=hall j q p hq hp;cases hpl':places[q.1]? with
    |none=>simp[hpl']at this
    |some pp =>
     cases hx:bQ q.2 with
     |none=>simp[hpl',hx]at this
     |some x=>simp[hpl',hx]at this;subst this;exact⟨by simpa using hpl',rfl⟩⟩ hzc hcs
   exact⟨C,by simp only[Program.built,hit,hu,hZ,hpl];exact h1,h2⟩
  .obtain⟨hl,hall⟩:=mapM_some _ aly;unfold lY at hs;cases hie:P.info? el with
   |none=>simp[hie]at hs
   |some ie =>
    simp[hie]at hs;obtain⟨C,h1,h2⟩:=Vy h.f (λi=>some (i*ie.size,ie.size)) vps ps.toList z.cells cs Z.cells ⟨hl,λj p q hp hq=>by
     have:=hall j q p hq hp;cases hx:bQ q.2 with
     |none=>simp[hx]at this
     |some x=>simp[hx]at this;subst this;exact⟨by simp[hs],rfl⟩⟩ hzc hcs
    exact⟨C,by simp only[Program.built,hit,hu,hZ,hie];exact h1,h2⟩
 obtain⟨C,hC,hCr⟩:=key;refine .pure h (x:=.agg C) ?_ (.dK (.Qg hCr));have hpe:(ps.map λ(i,x)=>(i,A.eval x)).toList=ps.toList.map λq=>(q.1,A.eval q.2):=by simp
 simp only[execOp,ho,aH,run_build w t _ C (by rw[hpe];exact hC),Result.andThen];rfl
end
section
variable {P:Program}{comp:FuncId->Code->aN}{g g':G}{σ σ':H}{w w':World}{β:Nat->Option Nat}{lo lo':Lo}{fr:List V}{A:Act}
def Vj(x:List V):(elemOf x).cells=x:=by
 unfold elemOf
 split
 .rename_i c;cases c<;>rfl
 .rfl
def OI{sz:Nat}:∀{n:Nat} {cs xs:List V},chunk sz n cs=some xs->xs.length=n/\n*sz<=cs.length/\∀(i:Nat) x,xs[i]?=some x->x.cells=(cs.drop (i*sz)).take sz:=by
 intro n
 induction n with
 |zero=>intro cs xs h;simp[chunk]at h;subst h;exact⟨rfl,by simp,λi x hx=>by simp at hx⟩
 |succ n ih =>
  intro cs xs h;simp only[chunk]at h;cases ht:takeN sz cs with
  |none=>simp[ht]at h
  |some t =>
   cases hc:chunk sz n (skip sz cs)with
   |none=>simp[ht,hc]at h
   |some r =>
    simp[ht,hc]at h;subst h;obtain⟨h1,rfl⟩:=pK ht;rw[xF]at hc;obtain⟨h2,h3,h4⟩:=ih hc;refine⟨by simp[h2],?_,λi x hx=>?_⟩
    .simp at h3;rw[kW];omega
    .cases i with
     |zero=>simp at hx;subst hx;rw[Vj];simp
     |succ i =>
      simp at hx;rw[h4 i x hx,List.drop_drop];congr 2;rw[kW];omega
def Rv.ars{b off n cap sz:Nat}{C:Array Value}{cs xs:List V}{ex:Bool}(hφ:∀o,g.φ b o=C[o]?)(hc:∀(j:Nat) c,cs[j]?=some c->∃x,C[off+j]?=some x/\Rv g c x)(hx:chunk sz n cs=some xs)(hn:n<=cap)(he:ex=true->cap=n)(hp:¬g.pin b) :
  Rv g (.list xs ex) (.slice (some ⟨b,off,none⟩) n cap):=by
 obtain⟨hl,hlen,hcells⟩:=OI hx;subst hl;have hk:∀x∈xs,x.cells.length=sz:=by
  intro x hx';obtain⟨i,hi⟩:=List.mem_iff_getElem?.1 hx';rw[hcells i x hi];have hi':=(fB.1 hi).1;have:(i+1)*sz<=xs.length*sz:=uK _ hi';rw[kW]at this;simp;omega
 have hval:∀(i:Nat) x (j:Nat) c,xs[i]?=some x->x.cells[j]?=some c->∃z,C[off+i*sz+j]?=some z/\Rv g c z:=by
  intro i x j c hx' hj;rw[hcells i x hx']at hj;simp[jd,jm]at hj;obtain⟨z,hz,CV⟩:=hc _ _ hj.2;exact⟨z,by rw[gq];exact hz,CV⟩
 refine .list sz (λi j=>(C[off+i*sz+j]?).getD Go.undef) hk hn he (λ_ _ _=>hp) (λi x j c hx' hj=>?_) (λi x j c hx' hj=>?_)
 .obtain⟨z,hz,_⟩:=hval i x j c hx' hj;rw[hφ,hz];rfl
 .obtain⟨z,hz,CV⟩:=hval i x j c hx' hj;rw[hz];exact CV
def Frm.alloc(B:Nat->Prop)(ob:Go.Obj):Frm g σ B w (w.alloc ob) :=
 ⟨rfl,rfl,rfl,by simp,λk hk _ _ _=>Below.heap_alloc w ob k hk⟩
def Rb.same(h:Rb g σ β lo w)(hg:g.le g')(hl:∀b,Live g' σ' b->b<w.heap.size->Live g σ b)(hp:∀b,b<w.heap.size->(∀o,g.φ b o=none)->¬Live g σ b->∀o,g'.φ b o=none)
  (hb:∀t b,β t=some b->w'.heap[b]?=w.heap[b]?):Rb g' σ' β lo w' where
 boxes t b e:=by
  obtain⟨cs,c,ty,h1,h2,h3,h4⟩:=h.boxes t b e;exact⟨cs,c,ty,h1,(hb t b e).trans h2,h3,λj x hx=>let⟨v,a,r⟩:=h4 j x hx;⟨v,a,r.mono hg⟩⟩
 apart t b e:=by
  obtain⟨h1,h2⟩:=h.apart t b e;obtain⟨cs,c,ty,_,h5,_⟩:=h.boxes t b e;have hlt:=(eY.1 h5).1;exact⟨λhl'=>h1 (hl b hl' hlt),hp b hlt h2 h1⟩
 inj:=h.inj
def Live.freeze{b:Nat}{c:Array Value}{k:Nat}(h:Live (g.freeze b c) σ k):Live g σ k:=h
def pO.frozen(h:St P comp g β σ lo fr A w){v:V}{x:Value}{r:Result Next}{c:Array Value}{e:TypeId}{fz:Nat×Nat}{w':World}(hw':w'.heap=(w.alloc (.cells c e fz)).heap/\w'.os=w.os/\w'.tape=w.tape/\w'.output=w.output)
  (hr:r=.ok (.value x) w') (hv:Rv (g.freeze w.heap.size c) v x):pO P comp g β σ w v lo σ r:=by
 obtain⟨hle,hrw⟩:=h.w.ah5 c e fz;have hsz:w'.heap.size=w.heap.size+1:=by rw[hw'.1];simp
 have hbl:∀k,k<w.heap.size->w'.heap[k]?=w.heap[k]?:=λk hk=>by rw[hw'.1];exact Below.heap_alloc w _ k hk
 refine⟨x,w',_,.inl hr,hle,.dK hv,hrw.same (by rw[hw'.1];exact aJ _) (λk _=>by rw[hw'.1]),h.b.same hle (λb hl _=>hl) (λb hb hp _ o=>?_) (λt b e=>?_),⟨hw'.2.1,hw'.2.2.1,hw'.2.2.2,by omega,λk hk _ _ _=>hbl k hk⟩,λb hl _=>hl,λb hb hp _ o=>by rw[G.kL _ _ (by omega)];exact hp o⟩
 .rw[G.kL _ _ (by omega)];exact hp o
 .obtain⟨cs,c,ty,_,h5,_⟩:=h.b.boxes t b e;exact hbl b (eY.1 h5).1
def ash(z:List V):∀(n i:Nat),i<n*z.length->(rep z n)[i]?=z[i%z.length]?:=by
 intro n
 induction n with
 |zero=>intro i h;simp at h
 |succ n ih =>
  intro i h;simp only[rep,yR];by_cases hi:i<z.length
  .rw[if_pos hi,Nat.mod_eq_of_lt hi]
  .rw[if_neg hi,ih _ (by have:=kW n z.length;simp only[Nat.succ_eq_add_one]at this;omega)];congr 1;exact(Nat.mod_eq_sub_mod (by omega)).symm
def Ib(z:List V):∀n,(rep z n).length=n*z.length:=by
 intro n
 induction n with
 |zero=>simp[rep]
 |succ n ih=>simp[rep,ih,kW];omega
def Xe{z:List V}{Z:Array Value}(hz:lW g z Z.toList)(n:Nat):lW g (rep z n) ((Array.range (n*Z.size)).map (Z[·%Z.size]!)).toList:=by
 have hl:z.length=Z.size:=by simpa using hz.1
 refine⟨by rw[Ib];simp[hl],λi v x hv hx=>?_⟩;have hi:i<n*z.length:=by rw[<- Ib];exact(fB.1 hv).1
 rw[ash z n i hi]at hv;have hpos:0<z.length:=by
  rcases Nat.eq_zero_or_pos z.length with h0|h0
  .rw[h0]at hi;simp at hi
  .exact h0
 have hm:i%z.length<z.length:=Nat.mod_lt _ hpos;have hi':i<n*Z.size:=by rw[<- hl];exact hi
 have hm':i%Z.size<Z.size:=by rw[<- hl];exact hm
 have hx':x=Z[i%Z.size]!:=by
  simp[hi']at hx;exact hx.symm
 refine hz.2 (i%z.length) v x hv ?_;rw[hx',hl];simp[hm']
end
section
variable {P:Program}{comp:FuncId->Code->aN}{g g':G}{σ σ':H}{w w':World}{β:Nat->Option Nat}{lo lo':Lo}{fr:List V}{A:Act}
def aiW{d:Nat}{o:Oper}{t el:TypeId}{n s:Nat}{ps:Array (Nat×Operand)}{z:V}{vps:List (Nat×Nat×aC)}(hu:P.underlying t=some (.slice el))(hs:lY P el=some s)(hz:nR P el=some z)(ho:o.op=.buildSlice t n ps)
  (aly:ps.toList.mapM (λ(q:Nat×Operand)=>do let x <- bQ q.2;pure (q.1*s,s,x))=some vps) (hlim:n*s<=2 ^ 20) (hs0:s≠0) (hzl:z.cells.length=s):Sound P comp d (.lit z.cells s n vps) o:=by
 intro g β σ lo fr A w v lo' σ' h e;obtain⟨it,Z,hit,hZ,hzc⟩:=mX (g:=g) hz;have hZs:Z.cells.size=s:=by have:=hzc.1;simp at this;omega
 simp only[aK,GX]at e
 split at e<;>try cases e
 rename_i cs hcs
 split at e<;>try cases e
 rename_i xs hxs;obtain⟨hl,hall⟩:=mapM_some _ aly;obtain⟨C,h1,h2⟩:=Vy h.f (λi=>some (i*s,s)) vps ps.toList _ cs _ ⟨hl,λj p q hp hq=>by
  have:=hall j q p hq hp;cases hx:bQ q.2 with
  |none=>simp[hx]at this
  |some x=>simp[hx]at this;subst this;exact⟨rfl,rfl⟩⟩ (Xe hzc n) hcs
 rw[hZs]at h1;refine pO.frozen h (c:=C) (e:=el) (fz:=(0,0)) (w':=w.alloc (.cells C el (0,0))) (x:=.slice (some ⟨w.heap.size,0,none⟩) n n) ⟨rfl,rfl,rfl,rfl⟩ ?_ ?_
 .have hpe:(ps.map λ(i,x)=>(i,A.eval x)).toList=ps.toList.map λq=>(q.1,A.eval q.2):=by simp
  have hnot:¬(n*s > 2 ^ 24):=by omega
  have hzero:(zeroValue el).run P w=.ok Z w:=by simp[zeroValue,typeInfo,program,Sem.run,hit,hZ,Result.andThen]
  simp only[execOp,ho,Instr.buildSlice];simp only[aH,run_underlying hu,Result.andThen,jl hs,if_neg hnot,Sem.run_pure];by_cases hn0:n*s=0
  .have hn:n=0:=by rcases Nat.mul_eq_zero.1 hn0 with h0|h0;exact h0;exact absurd h0 hs0
   subst hn;have h1':Instr.fill (λi=>some (i*s,s)) #[] (ps.toList.map λq=>(q.1,A.eval q.2))=some C:=by
    have:(Array.range (0*s)).map (λx=>Z.cells[x%s]!)=#[]:=by simp
    rw[this]at h1;exact h1
   have e0:∀zero:Array Value,Array.map (λx=>zero[x%zero.size]!) (Array.range 0)=#[]:=λzero=>by simp
   simp only[Nat.zero_mul,if_true,Sem.run_pure,Result.andThen,aH,e0];rw[hpe,h1'];simp only[newRow,aH,run_newObj_alloc,Result.andThen,Sem.run_pure]
  .simp only[if_neg hn0,aH,hzero,Result.andThen,Sem.run_pure];rw[hpe,hZs,h1];simp only[newRow,aH,run_newObj_alloc,Result.andThen,Sem.run_pure]
 .refine Rv.ars (C:=C) (λo=>G.Ae _ _ _ o) (λj c hj=>?_) hxs (aJ _) (λ_=>rfl) (λh=>h.2 rfl);obtain⟨x,hx,hxr⟩:=(h2.mono (G.FZ (g:=g) (b:=w.heap.size) C λo=>h.w.pW (aJ _) o)).get hj;exact⟨x,by simpa using hx,hxr⟩
end
section
variable {P:Program}{comp:FuncId->Code->aN}{g g':G}{σ σ':H}{w w':World}{β:Nat->Option Nat}{lo lo':Lo}{fr:List V}{A:Act}
def pO.new(h:St P comp g β σ lo fr A w){v:V}{x:Value}{r:Result Next}{ob:Obj}{gob:Go.Obj}{n:Nat}{w':World}(hw':w'.heap=(w.alloc gob).heap/\w'.os=w.os/\w'.tape=w.tape/\w'.output=w.output)
  (hr:r=.ok (.value x) w') (ho:Ro P comp (g.bind σ.next (w.heap.size,n)) ob w.heap.size n w') (hv:Rv (g.bind σ.next (w.heap.size,n)) v x):pO P comp g β σ w v lo (σ.new ob) r:=by
 have hbl:∀k,k<w.heap.size->w'.heap[k]?=w.heap[k]?:=λk hk=>by rw[hw'.1];exact Below.heap_alloc w _ k hk
 have hsz:w'.heap.size=w.heap.size+1:=by rw[hw'.1];simp
 have hw1:Rw P comp g σ w':=h.w.same (by omega) hbl;have hnl:¬Live g σ w.heap.size:=yM h.w;have hle:g.le (g.bind σ.next (w.heap.size,n)):=G.yJ _ (h.w.fresh _ (aJ _)).1;have hlive:∀b,Live (g.bind σ.next (w.heap.size,n)) (σ.new ob) b->b<w.heap.size->Live g σ b:=by
  rintro b ⟨i,m,hi,hb⟩ hlt
  by_cases e:i=σ.next
  .subst e;simp at hb;omega
  .rw[G.lX _ e]at hb;rw[H.rY]at hi;simp[Ne.symm e]at hi;exact⟨i,m,hi,hb⟩
 refine⟨x,w',_,.inl hr,hle,.dK hv,hw1.add hnl (λo=>h.w.pW (aJ _) o) ho,h.b.same hle hlive (λb _ hp _ o=>hp o) (λt b e=>?_),⟨hw'.2.1,hw'.2.2.1,hw'.2.2.2,by omega,λk hk _ _ _=>hbl k hk⟩,hlive,λb _ hp _ o=>hp o⟩;obtain⟨cs,c,ty,_,h5,_⟩:=h.b.boxes t b e;exact hbl b (eY.1 h5).1
def Cj{cs:List V}{C:Array Value}{e:TypeId}(hw':w'.heap=(w.alloc (.cells C e (0,0))).heap)(hc:lW g cs C.toList):Ro P comp g (.cells cs) w.heap.size C.size w' :=
 ⟨C,e,by rw[hw'];exact World.alloc_heap_new w _,rfl,by have:=hc.1;simp at this;omega,λj x hx=>let⟨z,hz,hr⟩:=hc.get hx;⟨z,by simpa using hz,hr⟩⟩
def Xm{d:Nat}{o:Oper}{t:TypeId}{z:V}(hz:nR P t=some z)(ho:o.op=.alloc t):Sound P comp d (.jy z.cells) o:=by
 intro g β σ lo fr A w v lo' σ' h e;simp only[aK,zH,OR.ok.injEq]at e;obtain⟨rfl,rfl,rfl⟩:=e;obtain⟨it,Z,hit,hZ,hzc⟩:=mX (g:=g) hz;have hzero:(zeroValue t).run P w=.ok Z w:=by simp[zeroValue,typeInfo,program,Sem.run,hit,hZ,Result.andThen]
 refine pO.new h (gob:=.cells Z.cells t (0,0)) (n:=Z.cells.size) (w':=w.alloc (.cells Z.cells t (0,0))) (x:=.pointer (some ⟨w.heap.size,0,none⟩)) ⟨rfl,rfl,rfl,rfl⟩ ?_
  (Cj rfl (hzc.mono (G.yJ _ (h.w.fresh _ (aJ _)).1))) (.bg 0 (G.rV _ _ _))
 simp only[execOp,ho,Instr.alloc,aH,hzero,Result.andThen,newVar,newRow,run_newObj_alloc,Sem.run_pure]
def adQ{d:Nat}{o:Oper}{t:TypeId}{x:Operand}{y:aC}(hx:bQ x=some y)(ho:o.op=.box t x):Sound P comp d (.Gw y) o:=by
 intro g β σ lo fr A w v lo' σ' h e;have hr:=Rs.ev h.f hx;simp only[aK,Dq]at e;generalize hv:y.ev fr=vx at e hr;have fin:vx≠.undef->Rv g vx (A.eval x)->pO P comp g β σ w (.bg σ.next 0) lo (σ.new (.cells vx.cells)) ((execOp A.eval o).run P w):=by
  intro hu RD;have hc:=RD.cells hu;refine pO.new h (gob:=.cells (A.eval x).cells t (0,0)) (n:=(A.eval x).cells.size) (w':=w.alloc (.cells (A.eval x).cells t (0,0))) (x:=.pointer (some ⟨w.heap.size,0,none⟩)) ⟨rfl,rfl,rfl,rfl⟩ ?_
   (Cj rfl (hc.mono (G.yJ _ (h.w.fresh _ (aJ _)).1))) (.bg 0 (G.rV _ _ _))
  simp only[execOp,ho,Instr.box,aH,Result.andThen,newVar,newRow,run_newObj_alloc,Sem.run_pure]
 cases vx with
 |aY _ _=>cases e
 |undef=>cases e
 |_=>simp only[OR.ok.injEq]at e;obtain⟨rfl,rfl,rfl⟩:=e;exact fin (by simp) hr
def aaH{d:Nat}{o:Oper}{t:TypeId}(ho:o.op=.makeMap t none):Sound P comp d .mkMap o:=by
 intro g β σ lo fr A w v lo' σ' h e;simp only[aK,Gj,OR.ok.injEq]at e;obtain⟨rfl,rfl,rfl⟩:=e;refine pO.new h (gob:=.map #[] 0) (n:=0) (w':=w.alloc (.map #[] 0)) (x:=.map (some w.heap.size)) ⟨rfl,rfl,rfl,rfl⟩ ?_ ?_ (.map (G.rV _ _ _))
 .simp only[execOp,ho,Instr.makeMap,dW,aH,run_newObj_alloc,Result.andThen,Sem.run_pure]
 .exact⟨#[],World.alloc_heap_new w _,rfl,λi k x hx=>by simp at hx⟩
def lW.evs(hf:Ap g β fr A.tmps):∀{xs:List Operand} {ys:List aC},xs.mapM bQ=some ys->iV (aC.evs ys fr)=false->lW g (aC.evs ys fr) (xs.map A.eval):=by
 intro xs
 induction xs with
 |nil=>intro ys h _;simp at h;subst h;exact .nil g
 |cons x xs ih =>
  intro ys h hl;simp only[List.mapM_cons,jc,jR]at h;cases hx:bQ x with
  |none=>simp[hx]at h
  |some y =>
   cases hxs:xs.mapM bQ with
   |none=>simp[hx,hxs]at h
   |some ys' =>
    simp[hx,hxs]at h;subst h;have hr:=Rs.ev hf hx;simp only[aC.evs]at hl|-;generalize hv:y.ev fr=vy at hl hr;cases vy with
    |aY _ _=>simp[iV]at hl
    |_=>exact .cons hr (ih hxs (by simpa[iV]using hl))
def Xt{d:Nat}{o:Oper}{f:FuncId}{a b:Array Operand}{a' b':List aC}(ha:a.toList.mapM bQ=some a')(hb:b.toList.mapM bQ=some b')(ho:o.op=.makeFunc (.func f) a b):Sound P comp d (.l9 (.func f) a' b') o:=by
 intro g β σ lo fr A w v lo' σ' h e;simp only[aK,tN]at e;generalize h1:iV (aC.evs a' fr)=q1 at e;generalize h2:iV (aC.evs b' fr)=q2 at e;cases q1
 .cases q2
  .simp only[Bool.or_self,cond_false,OR.ok.injEq]at e;obtain⟨rfl,rfl,rfl⟩:=e;have r1:=lW.evs h.f ha h1;have r2:=lW.evs h.f hb h2;refine .pure h (x:=.func (.func f) (a.map A.eval) (b.map A.eval)) ?_ (.dK (.func (.func f) (by simpa using r1.1) (by simpa using r2.1) (λi v w p q=>r1.2 i v w p (by simpa using q)) (λi v w p q=>r2.2 i v w p (by simpa using q))));simp[execOp,ho,Instr.makeFunc]
  .cases e
 .cases e
end
section
variable {P:Program}{comp:FuncId->Code->aN}{g g':G}{σ σ':H}{w w':World}{β:Nat->Option Nat}{lo lo':Lo}{fr:List V}{A:Act}
def Ai(lo:Lo)(t u:Nat)(cs:List V):dA (eP lo t cs) u=if t=u then some cs else dA lo u:=by
 induction lo with
 |nil =>
  by_cases h:t=u
  .subst h;simp[eP,dA]
  .simp[eP,dA,Iy h,h]
 |cons p r ih =>
  obtain⟨k,ds⟩:=p;simp only[eP];by_cases h:k=t
  .subst h;by_cases h2:k=u
   .subst h2;simp[dA]
   .simp[dA,Iy h2,h2]
  .rw[Iy h];simp only[cond_false,dA];by_cases h2:k=u
   .subst h2;simp[Ne.symm h]
   .rw[Iy h2];simp only[cond_false];exact ih
def iP(fr:List V)(t:Nat)(v:V):(lC fr t v).length=fr.length:=by
 induction fr generalizing t with
 |nil=>rfl
 |cons x xs ih=>cases t<;>simp[wW,su,ih]
def Jd(fr:List V)(t u:Nat)(v:V):(lC fr t v)[u]?=if t=u/\u<fr.length then some v else fr[u]?:=by
 induction fr generalizing t u with
 |nil=>simp[Je]
 |cons x xs ih =>
  cases t with
  |zero=>cases u<;>simp[wW]
  |succ t =>
   cases u with
   |zero=>simp[su]
   |succ u=>simp[su,ih]
def V8(t:Nat)(fr:List V):(fJ t fr).length=fr.length:=by
 induction fr with
 |nil=>rfl
 |cons x xs ih=>simp[fJ,ih]
def ahC(t:Nat)(fr:List V)(u:Nat):(fJ t fr)[u]?=(fr[u]?).map λv=>match v with|.aY k o=>if k=t then .undef else .aY k o|v=>v:=by
 induction fr generalizing u with
 |nil=>simp[fJ]
 |cons x xs ih =>
  cases u with
  |zero =>
   simp only[fJ,List.getElem?_cons_zero,bT,aG];cases x<;>try rfl
   rename_i k o;by_cases h:k=t
   .subst h;simp
   .simp[Iy h,h]
  |succ u=>simpa[fJ]using ih u
def Ap.put(h:Ap g β fr A.tmps){t:Nat}{v:V}{x:Value}(hv:Rs g β v x):Ap g β (lC fr t v) (A.tmps.setIfInBounds t x) where
 size:=by rw[iP];simpa using h.size
 slots u v' x' hv' hx':=by
  rw[Jd]at hv';rw[rD]at hx';by_cases e:t=u
  .subst e;by_cases hl:t<fr.length
   .have hl':t<A.tmps.size:=by rw[<- h.size];exact hl
    simp[hl]at hv';simp[hl']at hx';subst hv' hx';exact hv
   .have:fr[t]?=none:=gU (by omega);simp[hl]at hv'
  .simp[e]at hv' hx';exact h.slots u v' x' hv' hx'
def Ap.bG(h:Ap g β fr A.tmps){d:Option Nat}{v:V}{x:Value}(hv:Rs g β v x):Ap g β (bG fr d v) (A.put d x).tmps:=by
 cases d with
 |none=>exact h
 |some t=>exact h.put hv
def Ap.mono(h:Ap g β fr A.tmps)(hg:g.le g'):Ap g' β fr A.tmps:=⟨h.size,λt v x a b=>(h.slots t v x a b).mono hg⟩
def St.P9(h:St P comp g β σ lo fr A w)(d:Nat){cs:List V}{C:Array Value}(ty:TypeId)(hc:lW g cs C.toList) :
  St P comp g (λt=>if t=d then some w.heap.size else β t) σ (eP lo d cs) (lC (fJ d fr) d (.aY d 0)) (A.put (some d) (.pointer (some ⟨w.heap.size,0,none⟩))) (w.alloc (.cells C ty (0,0))):=by
 have hlt:∀t b,β t=some b->b<w.heap.size:=λt b e=>by
  obtain⟨cs,c,ty,_,h5,_⟩:=h.b.boxes t b e;exact(eY.1 h5).1
 refine⟨?_,⟨λt b e=>?_,λt b e=>?_,λt u b e e'=>?_⟩,h.w.alloc _⟩
 .have hk:Ap g (λt=>if t=d then some w.heap.size else β t) (fJ d fr) A.tmps:=by
   refine⟨by rw[V8];exact h.f.size,λu v x hv hx=>?_⟩;rw[ahC]at hv;cases hu:fr[u]? with
   |none=>simp[hu]at hv
   |some v0 =>
    simp[hu]at hv;have h0:=h.f.slots u v0 x hu hx;cases v0 with
    |aY k o =>
     by_cases hkd:k=d
     .simp[hkd]at hv;subst hv;exact .dK (.undef _)
     .simp[hkd]at hv;subst hv;obtain⟨b,hb,hx'⟩:=h0;exact⟨b,by simp[hkd,hb],hx'⟩
    |_=>simp at hv;subst hv;exact h0
  exact hk.put ⟨w.heap.size,by simp,rfl⟩
 .rw[Ai];by_cases ht:t=d
  .subst ht;simp at e;subst e;exact⟨cs,C,ty,by simp,World.alloc_heap_new w _,by simpa using hc.1,λj x hx=>let⟨z,hz,hr⟩:=hc.get hx;⟨z,by simpa using hz,hr⟩⟩
  .simp[ht]at e;obtain⟨cs',c,ty',h1,h2,h3,h4⟩:=h.b.boxes t b e;exact⟨cs',c,ty',by simp[Ne.symm ht,h1],(Below.heap_alloc w _ b (hlt t b e)).trans h2,h3,h4⟩
 .by_cases ht:t=d
  .subst ht;simp at e;subst e;exact⟨yM h.w,λo=>h.w.pW (aJ _) o⟩
  .simp[ht]at e;exact h.b.apart t b e
 .by_cases ht:t=d
  .by_cases hu:u=d
   .exact ht.trans hu.symm
   .simp[ht]at e;simp[hu]at e';have:=hlt u b e';omega
  .by_cases hu:u=d
   .simp[hu]at e';simp[ht]at e;have:=hlt t b e;omega
   .simp[ht]at e;simp[hu]at e';exact h.b.inj t u b e e'
def U4(P:Program)(comp:FuncId->Code->aN)(d:Nat)(GK:oM)(o:Oper):Prop :=
 ∀(g:G) (β:Nat->Option Nat) (σ:H) (lo:Lo) (fr:List V) (A:Act) (w:World) (v:V) (lo':Lo) (σ':H),St P comp g β σ lo fr A w->aK d GK fr lo σ=.ok v lo' σ' ->
  ∃(C:Array Value) (ty:TypeId),(execOp A.eval o).run P w=.ok (.value (.pointer (some ⟨w.heap.size,0,none⟩))) (w.alloc (.cells C ty (0,0)))/\v=.aY d 0/\σ'=σ/\∃cs,lo'=eP lo d cs/\lW g cs C.toList
def aaA{d:Nat}{o:Oper}{t:TypeId}{z:V}(hz:nR P t=some z)(ho:o.op=.alloc t):U4 P comp d (.alloc z.cells) o:=by
 intro g β σ lo fr A w v lo' σ' h e;simp only[aK,Gi,OR.ok.injEq]at e;obtain⟨rfl,rfl,rfl⟩:=e;obtain⟨it,Z,hit,hZ,hzc⟩:=mX (g:=g) hz;have hzero:(zeroValue t).run P w=.ok Z w:=by simp[zeroValue,typeInfo,program,Sem.run,hit,hZ,Result.andThen]
 refine⟨Z.cells,t,?_,rfl,rfl,_,rfl,hzc⟩;simp only[execOp,ho,Instr.alloc,aH,hzero,Result.andThen,newVar,newRow,run_newObj_alloc,Sem.run_pure]
def aiS{d:Nat}{o:Oper}{t:TypeId}{x:Operand}{y:aC}(hx:bQ x=some y)(ho:o.op=.box t x):U4 P comp d (.CJ y) o:=by
 intro g β σ lo fr A w v lo' σ' h e;have hr:=Rs.ev h.f hx;simp only[aK,AP]at e;generalize hv:y.ev fr=vx at e hr;have fin:vx≠.undef->Rv g vx (A.eval x)->∃(C:Array Value) (ty:TypeId),(execOp A.eval o).run P w=.ok (.value (.pointer (some ⟨w.heap.size,0,none⟩))) (w.alloc (.cells C ty (0,0)))/\lW g vx.cells C.toList:=by
  intro hu RD;refine⟨(A.eval x).cells,t,?_,RD.cells hu⟩;simp only[execOp,ho,Instr.box,aH,Result.andThen,newVar,newRow,run_newObj_alloc,Sem.run_pure]
 cases vx with
 |aY _ _=>cases e
 |undef=>cases e
 |_ =>
  simp only[OR.ok.injEq]at e;obtain⟨rfl,rfl,rfl⟩:=e;obtain⟨C,ty,h1,h2⟩:=fin (by simp) hr;exact⟨C,ty,h1,rfl,rfl,_,rfl,h2⟩
end
section
variable {P:Program}{comp:FuncId->Code->aN}{g g':G}{σ σ':H}{w w':World}{β:Nat->Option Nat}{lo lo':Lo}{fr:List V}{A:Act}
def arU{v:V}{x:Value}(h:Rv g v x)(ho:qW v=true):x.oneCell'=true:=by
 cases h<;>first|rfl|(simp[qW]at ho;done)
def Qr{vs:List V}{xs:List Value}(h:lW g vs xs)(ho:bf vs=true):∀x∈xs,x.oneCell'=true:=by
 induction vs generalizing xs with
 |nil=>rw[h.Rl];intro x hx;cases hx
 |cons v vs ih =>
  obtain⟨w,ws,rfl,hv,hs⟩:=h.Dz;simp[bf]at ho;intro x hx;rcases bU.1 hx with rfl|hx
  .exact arU hv ho.1
  .exact ih hs ho.2 x hx
def Rw.other(h:Rw P comp g σ w){b:Nat}(hl:¬Live g σ b)(hp:∀o,g.φ b o=none)(hs:w'.heap.size=w.heap.size)(hb:∀k,k≠b->w'.heap[k]?=w.heap[k]?):Rw P comp g σ w' where
 frozen b' o v e:=by
  have hne:b'≠b:=by intro e';subst e';rw[hp]at e;cases e
  exact(cell_of_block (a:=⟨b',o,none⟩) (hb b' hne)).trans (h.frozen b' o v e)
 objs i ob e:=by
  obtain⟨b',n,r,k,f⟩:=h.objs i ob e;have hne:b'≠b:=by intro e';subst e';exact hl ⟨i,n,by simp[e],r⟩
  exact⟨b',n,r,k.mono (.refl g) (hb b' hne),f⟩
 inj:=h.inj
 fresh:=h.fresh
 bound i b' n e:=by rw[hs];exact h.bound i b' n e
def spliced{cs vs r:List V}{C W:List Value}{n:Nat}(hc:cs.length<=C.length/\∀(j:Nat) x,cs[j]?=some x->∃v,C[j]?=some v/\Rv g x v)(hv:lW g vs W)(h:splice n cs vs=some r) :
  n+W.length<=C.length/\r.length=cs.length/\∀(j:Nat) x,r[j]?=some x->∃v,(C.take n++W++C.drop (n+W.length))[j]?=some v/\Rv g x v:=by
 obtain⟨h1,rfl⟩:=ML h;have hl:=hv.1;refine⟨by omega,by simp;omega,λj x hx=>?_⟩;simp only[fP,yR,List.length_take,jd,jm]at hx|-;have e1:min n cs.length=n:=by omega
 have e2:min n C.length=n:=by omega
 rw[e1]at hx;rw[e2];by_cases hj:j<n
 .simp only[hj,if_true]at hx|-;exact hc.2 j x hx
 .simp only[hj,if_false]at hx|-;by_cases hj2:j-n<vs.length
  .rw[if_pos hj2]at hx;rw[if_pos (by omega)];exact hv.get hx
  .rw[if_neg hj2]at hx;rw[if_neg (by omega)];rw[hl]at hx;exact hc.2 _ x hx
def aaK{d:Nat}{o:Oper}{t:TypeId}{a x:Operand}{a' x':aC}{n:Nat}(hn:lY P t=some n)(ha:bQ a=some a')(hx:bQ x=some x')(ho:o.op=.store t a x):Sound P comp d (.store n a' x') o:=by
 intro g β σ lo fr A w v lo' σ' h e;have hra:=Rs.ev h.f ha;have hrx:=Rs.ev h.f hx;simp only[aK,lq]at e;generalize hv:x'.ev fr=vx at e hrx;generalize hva:a'.ev fr=va at e hra;have fin:vx≠.undef->Rv g vx (A.eval x)->(bif Nat.beq vx.cells.length n&&bf vx.cells then bH va vx.cells lo σ else OR.fail)=.ok v lo' σ'->pO P comp g β σ w v lo' σ' ((execOp A.eval o).run P w):=by
  intro hu RD e;generalize hq:Nat.beq vx.cells.length n=q1 at e;generalize hq2:bf vx.cells=q2 at e;cases q1
  .cases e
  cases q2
  .cases e
  simp only[aU,cond_true]at e;have hc:=RD.cells hu;have hone:=Qr hc hq2;have hlen:(A.eval x).cells.size=n:=by have:=aP hq;have:=hc.1;simp at this;omega
  have hrun:∀(b off:Nat) (C:Array Value) (ty:TypeId),A.eval a=.pointer (some ⟨b,off,none⟩)->w.heap[b]?=some (.cells C ty (0,0))->off+(A.eval x).cells.toList.length<=C.toList.length ->
    (execOp A.eval o).run P w=.ok .skip (w.setRow b (C.toList.take off++(A.eval x).cells.toList++C.toList.drop (off+(A.eval x).cells.toList.length)).toArray):=by
   intro b off C ty hA hb hl;have hst:=run_storeCells_at (P:=P) b off ty (A.eval x).cells.toList 0 C w hb (by simpa using hl) hone;simp only[Nat.add_zero]at hst;have hne:¬((A.eval x).cells.size≠n):=by simp[hlen]
   simp only[execOp,ho,Instr.storeAt,hA,Instr.sureAddr,aH,Sem.run_pure,Result.andThen,storeVar,jl hn,if_neg hne,hst]
  cases va with
  |aY u off =>
   simp only[bH]at e;obtain⟨b,hbu,hA⟩:=hra;obtain⟨cs,C,ty,h1,h2,h3,h4⟩:=h.b.boxes u b hbu;obtain⟨hnl,hph⟩:=h.b.apart u b hbu;rw[h1]at e;dsimp only at e;cases hs:splice off cs vx.cells with
   |none=>rw[hs]at e;cases e
   |some r =>
    rw[hs]at e;simp only[OR.ok.injEq]at e;obtain⟨rfl,rfl,rfl⟩:=e;obtain⟨k1,k2,k3⟩:=spliced (g:=g) (C:=C.toList) ⟨by simp[h3],λj x hx=>let⟨z,hz,hr⟩:=h4 j x hx;⟨z,by simpa using hz,hr⟩⟩ hc hs;have hoth:∀k,k≠b->(w.setRow b (C.toList.take off++(A.eval x).cells.toList++C.toList.drop (off+(A.eval x).cells.toList.length)).toArray).heap[k]?=w.heap[k]?:=λk hk=>setRow_other w b k _ hk;refine⟨_,_,g,.inr ⟨hrun b off C ty hA h2 k1,rfl⟩,.refl g,.dK (.undef _),h.w.other hnl hph (by simp) hoth,⟨λt b' e'=>?_,h.b.apart,h.b.inj⟩,⟨rfl,rfl,rfl,by simp,λk _ _ hk _=>hoth k (by intro e';subst e';exact hk ⟨u,hbu⟩)⟩,λb hl _=>hl,λ_ _ h _=>h⟩;rw[Ai];by_cases hut:u=t
    .subst hut;rw[hbu]at e';cases e';refine⟨r,_,ty,by simp,setRow_heap w b C _ ty (0,0) h2,?_,λj x hx=>?_⟩
     .simp at k1|-;omega
     .obtain⟨z,hz,hr⟩:=k3 j x hx;exact⟨z,by simpa using hz,hr⟩
    .have hne:b'≠b:=by intro e'';subst e'';exact hut (h.b.inj u t b' hbu e')
     obtain⟨cs',c,ty',g1,g2,g3,g4⟩:=h.b.boxes t b' e';exact⟨cs',c,ty',by simp[hut,g1],(hoth b' hne).trans g2,g3,g4⟩
  |bg id off =>
   simp only[bH]at e;generalize hX:A.eval a=X at hra;cases hra with
   |bg _ D8 =>
   cases hg:getCells σ id with
   |none=>rw[hg]at e;cases e
   |some cs =>
    rw[hg]at e;dsimp only at e;obtain⟨b,m,C,ty,r,h2,h3,h5,h4,h6,hlive⟩:=h.w.cells hg;obtain⟨rfl,rfl⟩:=Prod.mk.inj (gZ (r.symm.trans D8));cases hs:splice off cs vx.cells with
    |none=>rw[hs]at e;cases e
    |some q =>
     rw[hs]at e;simp only[OR.ok.injEq]at e;obtain⟨rfl,rfl,rfl⟩:=e;obtain⟨k1,k2,k3⟩:=spliced (g:=g) (C:=C.toList) ⟨by simp[h3];omega,λj x hx=>let⟨z,hz,hr⟩:=h4 j x hx;⟨z,by simpa using hz,hr⟩⟩ hc hs;have hoth:∀k,k≠b->(w.setRow b (C.toList.take off++(A.eval x).cells.toList++C.toList.drop (off+(A.eval x).cells.toList.length)).toArray).heap[k]?=w.heap[k]?:=λk hk=>setRow_other w b k _ hk;have hlv:∀b',Live g (σ.set id (.cells q)) b'->Live g σ b':=by
      rintro b' ⟨i,m',hi,hb'⟩
      rw[H.qG]at hi;by_cases e1:id=i
      .subst e1;exact⟨id,m',by simp[jq hg],hb'⟩
      .simp[e1]at hi;exact⟨i,m',hi,hb'⟩
     have hro:Ro P comp g (.cells q) b m (w.setRow b (C.toList.take off++(A.eval x).cells.toList++C.toList.drop (off+(A.eval x).cells.toList.length)).toArray) :=
      ⟨_,ty,setRow_heap w b C _ ty (0,0) h2,by simp at k1|-;omega,by omega,λj x hx=>let⟨z,hz,hr⟩:=k3 j x hx;⟨z,by simpa using hz,hr⟩⟩
     refine⟨_,_,g,.inr ⟨hrun b off C ty hX h2 k1,rfl⟩,.refl g,.dK (.undef _),h.w.put (by simp[jq hg]) r (by simp) hoth hro,h.b.same (.refl g) (λb' hl _=>hlv b' hl) (λ_ _ hp _ o=>hp o) (λt b' e'=>hoth b' (by intro e'';subst e'';exact(h.b.apart t b' e').1 hlive)),
      ⟨rfl,rfl,rfl,by simp,λk _ hk _ _=>hoth k (by intro e';subst e';exact hk hlive)⟩,λb' hl _=>hlv b' hl,λ_ _ h _=>h⟩
  |_=>simp[bH]at e
 cases vx with
 |aY _ _=>cases e
 |undef=>cases e
 |_=>exact fin (by simp) hrx e
end
section
variable {P:Program}{comp:FuncId->Code->aN}{g g':G}{σ σ':H}{w w':World}{β:Nat->Option Nat}{lo lo':Lo}{fr:List V}{A:Act}
def Rw.Qb(h:Rw P comp g σ w){i:Nat}{es:List (V×V)}(e:gK σ i=some es):∃b n ents,g.ρ i=some (b,n)/\w.heap[b]?=some (.map ents ents.size)/\ents.size=es.length /\
  (∀(i:Nat) (k x:V),es[i]?=some (k,x)->∃e,ents[i]?=some e/\Rv g k e.key/\Rv g x e.val/\e.born=i)/\(∀o,g.φ b o=none):=by
 obtain⟨b,n,hr,ho,hf⟩:=h.objs i _ (lI e);obtain⟨ents,h1,h2,h3⟩:=ho;exact⟨b,n,ents,hr,h1,h2,h3,hf⟩
def Wn(cls:Nat)(ds:TypeDesc):Prop:=match cls,ds with
 |0,.slice _=>True
 |1,.string=>True
 |2,.map _ _=>True
 |_,_=>False
def arq{ats:Array TypeId}{t ty:TypeId}{ds:TypeDesc}{cls n:Nat}(ht:ats[0]?=some t)(hu:P.underlying t=some ds)(hd:Wn cls ds)(hw:Rw P comp g σ w){vx:V}{X:Value}(hr:Rs g β vx X)
  (hl:lenOf σ cls vx=some n):(Builtin.len_ ats ty #[X]).run P w=.ok (.int .i64 n) w:=by
 unfold Wn at hd
 split at hd
 .cases vx<;>simp[lenOf]at hl<;>subst hl<;>cases hr<;>simp[Builtin.len_,ht,aH,run_underlying hu,Result.andThen,goInt]
 .cases vx<;>simp[lenOf]at hl<;>subst hl;obtain⟨bs,rfl,hs⟩:=yu hr rfl;subst hs;simp[Builtin.len_,ht,aH,run_underlying hu,Result.andThen,goInt]
 .cases vx<;>simp[lenOf]at hl
  .subst hl;cases hr;simp[Builtin.len_,ht,aH,run_underlying hu,Result.andThen,goInt]
  .rename_i id;cases hg:gK σ id with
   |none=>rw[hg]at hl;cases hl
   |some es =>
    rw[hg]at hl;simp at hl;subst hl;obtain⟨b,m,ents,k1,k2,k3,_⟩:=hw.Qb hg;cases hr with
    |map D8 =>
    obtain⟨rfl,rfl⟩:=Prod.mk.inj (gZ (k1.symm.trans D8));simp[Builtin.len_,ht,aH,run_underlying hu,Result.andThen,goInt,MapKept.run_getObj_map k2,k3]
 .exact hd.elim
def KY{d:Nat}{o:Oper}{x:Operand}{x':aC}{ats:Array TypeId}{t:TypeId}{ds:TypeDesc}{cls:Nat}(ht:ats[0]?=some t)(hu:P.underlying t=some ds)(hd:Wn cls ds)(hx:bQ x=some x')
  (ho:o.op=.call { callee:=.builtin .len,args:=#[x],argTypes:=ats }):Sound P comp d (.len cls x') o:=by
 intro g β σ lo fr A w v lo' σ' h e;simp only[aK,vN]at e;cases hl:lenOf σ cls (x'.ev fr)with
 |none=>rw[hl]at e;cases e
 |some n =>
 rw[hl]at e;simp only[OR.ok.injEq]at e;obtain⟨rfl,rfl,rfl⟩:=e;refine .pure h (x:=.int .i64 n) ?_ (.dK (.int _ _));have:=arq (ty:=o.type) ht hu hd h.w (Rs.ev h.f hx) hl;simp only[execOp,ho,resolve,invoke,builtin,aH,Sem.run_pure,Result.andThen];simp[this]
def aiU{d:Nat}{o:Oper}{x:Operand}{x':aC}{ats:Array TypeId}{t el:TypeId}(ht:ats[0]?=some t)(hu:P.underlying t=some (.slice el))(hx:bQ x=some x')
  (ho:o.op=.call { callee:=.builtin .cap,args:=#[x],argTypes:=ats }):Sound P comp d (.cap x') o:=by
 intro g β σ lo fr A w v lo' σ' h e;have fin:∀(b:Option Addr) (l n:Nat),A.eval x=.slice b l n->(execOp A.eval o).run P w=.ok (.value (.int .i64 n)) w:=by
  intro b l n hX;simp[execOp,ho,hX,resolve,invoke,builtin,Builtin.cap_,ht,aH,run_underlying hu,Result.andThen,goInt]
 have hr:=Rs.ev h.f hx;simp only[aK,BP]at e;generalize hv:x'.ev fr=vx at e hr;generalize hX:A.eval x=X at hr;cases vx<;>try (cases e;done)
 .simp only[OR.ok.injEq]at e;obtain⟨rfl,rfl,rfl⟩:=e;cases hr;exact .pure h (fin _ _ _ hX) (.dK (.int _ _))
 .rename_i xs ex;cases ex
  .cases e
  simp only[cond_true,OR.ok.injEq]at e;obtain⟨rfl,rfl,rfl⟩:=e;cases hr with
  |list k vs hk hc he =>
  have:=he rfl;subst this;exact .pure h (fin _ _ _ hX) (.dK (.int _ _))
 .rename_i id off len cap sz;cases cap with
  |none=>cases e
  |some c =>
  simp only[OR.ok.injEq]at e;obtain⟨rfl,rfl,rfl⟩:=e;cases hr with
  |hsl hh hl hc hn =>
  have:=hc c rfl;subst this;exact .pure h (fin _ _ _ hX) (.dK (.int _ _))
end
section
variable {P:Program}{comp:FuncId->Code->aN}{g g':G}{σ σ':H}{w w':World}{β:Nat->Option Nat}{lo lo':Lo}{fr:List V}{A:Act}
def Bg{v:V}{X:Value}{d y n:Nat}(hX:Rs g β v X)(h:bound (some v) d y=some n) :
  (∀y' c,y<=y'->(Instr.sliceBound X y' c).run P w=.ok n w)/\n<=y:=by
 cases v<;>try (simp[bound]at h;done)
 rename_i k' m;cases m with
 |negSucc m=>simp[bound]at h
 |ofNat m =>
 simp only[bound]at h;generalize hq:Nat.ble m y=q at h;cases q
 .cases h
 simp only[cond_true,aG]at h;subst h;have hle:m<=y:=jA hq;have hX':=jL hX rfl;refine⟨λy' c hy=>?_,hle⟩;have h0:(0:Int)<=Int.ofNat m/\Int.ofNat m<=(y':Int):=⟨Int.natCast_nonneg m,by simpa using(by omega:m<=y')⟩;simp only[Instr.sliceBound,hX',asIntOf,aH,Sem.run_pure,Result.andThen,if_pos h0];rfl
inductive Rso (g:G)(β:Nat->Option Nat):Option V->Option Value->Prop
 |none:Rso g β none none
 |some {v:V} {X:Value} (h:Rs g β v X):Rso g β (some v) (some X)
def Rso.ev(hf:Ap g β fr A.tmps){x:Option Operand}{x':Option aC}(h:x.mapM bQ=Option.some x'):Rso g β (D7 x' fr) (x.map A.eval):=by
 cases x with
 |none=>simp at h;subst h;exact .none
 |some x =>
  simp only[Option.mapM_some]at h;cases hc:bQ x with
  |none=>simp[hc]at h
  |some y=>simp[hc]at h;subst h;exact .some (Rs.ev hf hc)
def Am{lo hi mx:Option V}{lx hx mxx:Option Value}{len cap cap' l hh m:Nat}(sl:Bool)(rl:Rso g β lo lx)(rh:Rso g β hi hx)(rm:Rso g β mx mxx)
  (hc:cap<=cap') (hlen:len<=cap) (h:jG len cap lo hi mx=some (l,hh,m)) :
  (Instr.sliceBounds sl len cap' lx hx mxx).run P w=.ok (l,hh,if mx.isSome then m else cap') w/\l<=hh/\hh<=m/\m<=cap/\(mx=none->m=cap):=by
 have fin:(mx.isSome=true->hi.isSome=true)/\∃m',bound mx cap cap=some m'/\∃h',bound hi len m'=some h'/\∃l',bound lo 0 h'=some l'/\l'=l/\h'=hh/\m'=m:=by
  unfold jG at h
  split at h
  .cases h
  .rename_i hno;refine⟨λhm=>?_,?_⟩
   .cases mx with
    |none=>cases hm
    |some a=>cases hi with
     |none=>exact absurd rfl (hno a rfl)
     |some b=>rfl
   .cases h1:bound mx cap cap with
    |none=>rw[h1]at h;cases h
    |some m' =>
     rw[h1]at h;dsimp only at h;cases h2:bound hi len m' with
     |none=>rw[h2]at h;cases h
     |some h' =>
      rw[h2]at h;dsimp only at h;cases h3:bound lo 0 h' with
      |none=>rw[h3]at h;cases h
      |some l' =>
       rw[h3]at h;simp only[aG,Prod.mk.injEq]at h;exact⟨m',rfl,h',h2,l',h3,h.1,h.2.1,h.2.2⟩
 obtain⟨hsome,m',h1,h',h2,l',h3,rfl,rfl,rfl⟩:=fin;cases rm with
 |none =>
  simp only[bound,aG]at h1;subst h1;cases rh with
  |none =>
   simp only[bound,aG]at h2;subst h2;cases rl with
   |none =>
    simp only[bound,aG]at h3;subst h3;exact⟨by simp[Instr.sliceBounds],eX _,hlen,aJ _,λ_=>rfl⟩
   |some hl =>
    obtain⟨b1,b2⟩:=Bg (P:=P) (w:=w) hl h3;refine⟨?_,b2,hlen,aJ _,λ_=>rfl⟩;simp[Instr.sliceBounds,Result.andThen,b1]
  |some hh =>
   obtain⟨c1,c2⟩:=Bg (P:=P) (w:=w) hh h2;cases rl with
   |none =>
    simp only[bound,aG]at h3;subst h3;exact⟨by simp[Instr.sliceBounds,Result.andThen,c1 _ _ hc],eX _,c2,aJ _,λ_=>rfl⟩
   |some hl =>
    obtain⟨b1,b2⟩:=Bg (P:=P) (w:=w) hl h3;refine⟨?_,b2,c2,aJ _,λ_=>rfl⟩;simp[Instr.sliceBounds,Result.andThen,b1,c1 _ _ hc]
 |some hm =>
  obtain⟨d1,d2⟩:=Bg (P:=P) (w:=w) hm h1;cases rh with
  |none=>simp at hsome
  |some hh =>
   obtain⟨c1,c2⟩:=Bg (P:=P) (w:=w) hh h2;cases rl with
   |none =>
    simp only[bound,aG]at h3;subst h3;exact⟨by simp[Instr.sliceBounds,Result.andThen,c1,d1 _ _ hc],eX _,c2,d2,λe=>by cases e⟩
   |some hl =>
    obtain⟨b1,b2⟩:=Bg (P:=P) (w:=w) hl h3;refine⟨?_,b2,c2,d2,λe=>by cases e⟩;simp[Instr.sliceBounds,Result.andThen,b1,c1,d1 _ _ hc]
end
section
variable {P:Program}{comp:FuncId->Code->aN}{g g':G}{σ σ':H}{w w':World}{β:Nat->Option Nat}{lo lo':Lo}{fr:List V}{A:Act}
def Rv.aoa{xs:List V}{ex ex':Bool}{a:Option Addr}{n cap cap' sz l hh:Nat}(h:Rv g (.list xs ex) (.slice a n cap))(hsz:xY sz xs=true)(h1:l<=hh)(h2:hh<=n)(h3:hh<=cap')(he:ex'=true->cap'=hh) :
  n=xs.length/\n<=cap/\(ex=true->cap=n)/\Rv g (.list ((xs.take hh).drop l) ex') (.slice (if cap'=l then a else a.map (·.add (l*sz))) (hh-l) (cap'-l)):=by
 cases h with
 |@list _ _ b o _ k vs hk hc hex hpn hv hr =>
 refine⟨rfl,hc,hex,?_⟩;have hlen:((xs.take hh).drop l).length=hh-l:=by simp;omega
 have hget:∀i,((xs.take hh).drop l)[i]?=if l+i<hh then xs[l+i]? else none:=by
  intro i;rw[jm,jd]
 have hmem:∀x∈(xs.take hh).drop l,x∈xs:=λx hx=>List.mem_of_mem_take (List.mem_of_mem_drop hx);by_cases hq:l=hh
 .subst hq;have hnil:(xs.take l).drop l=[]:=List.eq_nil_of_length_eq_zero (by omega);rw[hnil];have aux:∀b o,Rv g (.list [] ex') (.slice (some ⟨b,o,none⟩) (l-l) (cap'-l)):=λb o=>by
   have:l-l=([]:List V).length:=by simp
   rw[this];exact .list (ex:=ex') 0 (λ_ _=>Go.undef) (by simp) (by simp) (λe=>by simp[he e]) (by simp) (λi x j c e=>by simp at e) (λi x j c e=>by simp at e)
  by_cases e:cap'=l
  .rw[if_pos e];exact aux _ _
  .rw[if_neg e];simp only[bT,oh];exact aux _ _
 .have hks:k=sz:=by
   cases xs with
   |nil=>simp at h2;omega
   |cons x xs =>
    have:=hk x (by simp);simp only[xY]at hsz;have:=aP hsz;omega
  subst hks;rw[if_neg (by omega)];simp only[bT,oh];have:=Rv.list (g:=g) (xs:=(xs.take hh).drop l) (ex:=ex') (b:=b) (o:=o+l*k) (cap:=cap'-l) k (λi j=>vs (l+i) j) (λx hx=>hk x (hmem x hx)) (by omega) (λe=>by have:=he e;omega) (λx hx=>hpn x (hmem x hx))
   (λi x j c e e'=>by
    rw[hget]at e
    split at e
    .have:=hv (l+i) x j c e e';have e2:o+l*k+i*k+j=o+(l+i)*k+j:=by rw[Nat.add_mul];omega
     rw[e2];exact this
    .cases e)
   (λi x j c e e'=>by
    rw[hget]at e
    split at e
    .exact hr (l+i) x j c e e'
    .cases e)
  rw[hlen]at this;exact this
def Rv.asU{bs:ByteArray}{l hh:Nat}:Rv g (.str (((bs.data.toList.map UInt8.toNat).take hh).drop l)) (.string (bs.extract l hh)):=by
 have:((bs.data.toList.map UInt8.toNat).take hh).drop l=(bs.extract l hh).data.toList.map UInt8.toNat:=by
  simp[ByteArray.data_extract,List.map_drop,List.map_take,List.drop_take]
 rw[this];exact .str _
def MJ{d:Nat}{o:Oper}{x:Operand}{x':aC}{lw hi mx:Option Operand}{lw' hi' mx':Option aC}{t:TypeId}{ds:TypeDesc}{st:Bool}{sz:Nat}(hu:P.underlying t=some ds)
  (hd:(st=true/\ds=.string)\/(st=false/\∃el,ds=.slice el/\lY P el=some sz)) (hx:bQ x=some x') (hl:lw.mapM bQ=some lw') (hh:hi.mapM bQ=some hi') (hm:mx.mapM bQ=some mx')
  (ho:o.op=.slice t x lw hi mx):Sound P comp d (.slice st sz x' lw' hi' mx') o:=by
 intro g β σ lo fr A w v lo' σ' h e;have rl:=Rso.ev h.f hl;have rh:=Rso.ev h.f hh;have rm:=Rso.ev h.f hm;have hr:=Rs.ev h.f hx;have hrun:∀(X:Value),(Instr.slice t (A.eval x) (lw.map A.eval) (hi.map A.eval) (mx.map A.eval)).run P w=.ok X w->(execOp A.eval o).run P w=.ok (.value X) w:=by
  intro X hX;have hne:(Instr.sliceAt t (A.eval x) (lw.map A.eval) (hi.map A.eval) (mx.map A.eval)).run P w=.ok X w:=by
   rw[<- hX];rcases hd with⟨_,rfl⟩|⟨_,el,rfl,_⟩<;>simp[Instr.sliceAt,aH,run_underlying hu,Result.andThen]
  simp only[execOp,ho,aH,hne,Result.andThen,Sem.run_pure]
 simp only[aK,uh]at e;generalize D7 lw' fr=vl at e rl;generalize D7 hi' fr=vh at e rh;generalize D7 mx' fr=vm at e rm;generalize hv:x'.ev fr=vx at e hr;generalize hX:A.eval x=X at hr;rw[hX]at hrun;cases vx<;>try (cases e;done)
 .rename_i s;rcases hd with⟨rfl,rfl⟩|⟨rfl,el,rfl,hs⟩
  .simp only[cond_true]at e;have eo:=Dl e;clear e;obtain⟨e,rfl,rfl⟩:=eo;obtain⟨bs,rfl,rfl⟩:=yu hr rfl;cases vm with
   |some _=>cases e
   |none =>
   simp only[QT]at e;cases hb:jG (bs.data.toList.map UInt8.toNat).length (bs.data.toList.map UInt8.toNat).length vl vh none with
   |none=>rw[hb]at e;cases e
   |some p =>
    obtain⟨l,h',m⟩:=p;rw[hb]at e;simp only[aG]at e;subst e;cases hmx:mx.map A.eval with
    |some _=>rw[hmx]at rm;cases rm
    |none =>
    rw[hmx]at rm hrun;obtain⟨k1,k2,k3,k4,k5⟩:=Am (P:=P) (w:=w) (cap':=bs.size) false rl rh rm (by simp) (aJ _) hb;have hsz:(bs.data.toList.map UInt8.toNat).length=bs.size:=by simp
    rw[hsz]at k1;refine .pure h (hrun (.string (bs.extract l h')) ?_) (.dK Rv.asU);simp[Instr.slice,aH,run_underlying hu,Result.andThen,k1]
  .cases e
 .rcases hd with⟨rfl,rfl⟩|⟨rfl,el,rfl,hs⟩
  .cases e
  simp only[cond_false]at e;have eo:=Dl e;clear e;obtain⟨e,rfl,rfl⟩:=eo;cases hr;simp only[QS]at e;cases hb:jG 0 0 vl vh vm with
  |none=>rw[hb]at e;cases e
  |some p =>
   obtain⟨l,h',m⟩:=p;rw[hb]at e;simp only[aG]at e;subst e;obtain⟨k1,k2,k3,k4,k5⟩:=Am (P:=P) (w:=w) (cap':=0) true rl rh rm (aJ _) (aJ _) hb;have hm0:m=0:=by omega
   have hh0:h'=0:=by omega
   have hl0:l=0:=by omega
   subst hm0 hh0 hl0;refine .pure h (hrun (.slice none 0 0) ?_) (.dK .aj);simp[Instr.slice,aH,run_underlying hu,Result.andThen,k1,jl hs]
 .rename_i xs ex;rcases hd with⟨rfl,rfl⟩|⟨rfl,el,rfl,hs⟩
  .cases e
  simp only[cond_false]at e;have eo:=Dl e;clear e;obtain⟨e,rfl,rfl⟩:=eo;have RD:Rv g (.list xs ex) X:=hr;simp only[EY]at e;generalize hq:xY sz xs=q at e;cases q
  .cases e
  simp only[cond_true]at e;cases hb:jG xs.length xs.length vl vh vm with
  |none=>rw[hb]at e;cases e
  |some p =>
   obtain⟨l,h',m⟩:=p;rw[hb]at e;simp only[aG]at e;subst e;have hXs:∃a n cap,X=.slice a n cap/\n=xs.length/\n<=cap/\(ex=true->cap=n):=by
    cases RD with
    |list k vs hk hc he _ hv hr=>exact⟨_,_,_,rfl,rfl,hc,he⟩
   obtain⟨a,n,cap,rfl,hn,hcap,hex⟩:=hXs;obtain⟨k1,k2,k3,k4,k5⟩:=Am (P:=P) (w:=w) (cap':=cap) true rl rh rm (by omega) (aJ _) hb;have hcl:h'<=(if vm.isSome then m else cap):=by split<;>omega
   obtain⟨_,_,_,hsub⟩:=RD.aoa (ex':=adO vm m h' ex xs.length) (cap':=if vm.isSome then m else cap) (sz:=sz) (l:=l) (hh:=h') hq k2 (by omega) hcl (λe=>by
    cases vm with
    |some _=>simp only[adO]at e;simpa using aP e
    |none =>
     simp only[adO,ah]at e;have e1:=hex e.1;have e2:=aP e.2;simp;omega)
   refine .pure h (hrun _ ?_) (.dK hsub);rw[hn];simp only[Instr.slice,aH,run_underlying hu,Result.andThen,k1,jl hs,Sem.run_pure]
 .rename_i id off len cap sz';rcases hd with⟨rfl,rfl⟩|⟨rfl,el,rfl,hs⟩
  .cases e
  simp only[cond_false]at e;have eo:=Dl e;clear e;obtain⟨e,rfl,rfl⟩:=eo;simp only[QO]at e;generalize hq:Nat.beq sz sz'=q at e;cases q
  .cases e
  simp only[cond_true]at e;have:=aP hq;subst this;cases hr with
  |@hsl _ b n _ _ _ c' _ hρ hlc hcap hn =>
  cases hb:jG len (cap.getD len) vl vh vm with
  |none=>rw[hb]at e;cases e
  |some p =>
   obtain⟨l,h',m⟩:=p;rw[hb]at e;dsimp only at e;have hcg:cap.getD len<=c'/\len<=cap.getD len:=by
    cases cap with
    |none=>exact⟨hlc,aJ _⟩
    |some c=>have:=hcap c rfl;simp;omega
   obtain⟨k1,k2,k3,k4,k5⟩:=Am (P:=P) (w:=w) (cap':=c') true rl rh rm hcg.1 hcg.2 hb;have hrun2:=hrun (.slice (if(if vm.isSome then m else c')=l then some ⟨b,off,none⟩else some ⟨b,off+l*sz,none⟩) (h'-l) ((if vm.isSome then m else c')-l)) (by
    simp only[Instr.slice,aH,run_underlying hu,Result.andThen,k1,jl hs,Sem.run_pure,bT,oh])
   generalize hq2:(Nat.beq l m&&!Nat.beq l 0)=q2 at e;cases q2
   .simp only[cond_false,aG]at e;subst e;refine .pure h hrun2 (.dK ?_);have hoff:(if(if vm.isSome then m else c')=l then some (⟨b,off,none⟩:Addr)else some ⟨b,off+l*sz,none⟩)=some ⟨b,off+l*sz,none⟩:=by
     by_cases he:(if vm.isSome then m else c')=l
     .rw[if_pos he];have hlm:l=m:=by
       cases vm with
       |some _=>simp at he;exact he.symm
       |none=>simp at he;have:=k5 rfl;omega
      have:l=0:=by
       subst hlm;rw[abA,Bool.true_and]at hq2;cases l with
       |zero=>rfl
       |succ l=>simp at hq2
      subst this;simp
     .rw[if_neg he]
    rw[hoff];have hmc:(if vm.isSome then m else c')<=c':=by split<;>omega
    have hhc:h'<=(if vm.isSome then m else c'):=by split<;>omega
    refine .hsl hρ (by omega) (λc hc=>?_) ?_
    .cases vm with
     |some _=>simp at hc|-;exact hc
     |none =>
      cases cap with
      |none=>cases hc
      |some c2 =>
       have:=hcap c2 rfl;simp[ajW]at hc|-;omega
    .have:l*sz+((if vm.isSome then m else c')-l)*sz<=c'*sz:=by
      rw[<- Nat.add_mul];exact uK _ (by omega)
     omega
   .simp only[cond_true,aG]at e;subst e;simp only[ah]at hq2;have hlm:=aP hq2.1;refine .pure h hrun2 (.dK ?_);have h0:h'-l=([]:List V).length:=by simp;omega
    rw[h0];have aux:∀b o c,Rv g (.list [] false) (.slice (some ⟨b,o,none⟩) ([]:List V).length c):=λb o c =>
     .list (ex:=false) 0 (λ_ _=>Go.undef) (by simp) (by simp) (λe=>by cases e) (by simp) (λi x j c e=>by simp at e) (λi x j c e=>by simp at e)
    by_cases he:(if vm.isSome then m else c')=l
    .rw[if_pos he];exact aux _ _ _
    .rw[if_neg he];exact aux _ _ _
end
section
variable {P:Program}{comp:FuncId->Code->aN}{g g':G}{σ σ':H}{w w':World}{β:Nat->Option Nat}{lo lo':Lo}{fr:List V}{A:Act}
def uD(l:List Nat):ofBytes l=l.map λb=>V.int .u8 (.ofNat b):=by
 induction l with
 |nil=>rfl
 |cons a l ih=>simp[ofBytes,ih]
def SB{d:Nat}{o:Oper}{x:Operand}{x':aC}{s t el:TypeId}(hs:P.underlying s=some .string)(ht:P.underlying t=some (.slice el))(he:P.underlying el=some (.int .u8))(hx:bQ x=some x')(ho:o.op=.convert s t x) :
  Sound P comp d (.nG x') o:=by
 intro g β σ lo fr A w v lo' σ' h e;have hr:=Rs.ev h.f hx;simp only[aK,jE]at e;generalize hv:x'.ev fr=vx at e hr;cases vx<;>try (cases e;done)
 rename_i l;simp only[OR.ok.injEq]at e;obtain⟨rfl,rfl,rfl⟩:=e;obtain⟨bs,hb,rfl⟩:=yu hr rfl;have hrun:=run_bytes_of_string (P:=P) w s t el bs hs ht he;have hge:=grownCap_ge w bs.size 0 el;generalize hC:grownCap w bs.size 0 el=cap at hrun hge;refine pO.frozen h (c:=bytesRow bs cap) (e:=el) (fz:=((bytesRow bs cap).size,(bytesRow bs cap).size+1)) (x:=.slice (some ⟨w.heap.size,0,none⟩) bs.size cap)
  (w':=w.drew.alloc (.cells (bytesRow bs cap) el ((bytesRow bs cap).size,(bytesRow bs cap).size+1))) ⟨rfl,rfl,rfl,rfl⟩ ?_ ?_
 .simp only[execOp,ho,hb,aH,hrun,Result.andThen,Sem.run_pure]
 .have hlen:(ofBytes (bs.data.toList.map UInt8.toNat)).length=bs.size:=by simp[uD]
  rw[<- hlen];have hcell:∀(i:Nat) (x:V) (j:Nat) (c:V),(ofBytes (bs.data.toList.map UInt8.toNat))[i]?=some x->x.cells[j]?=some c->∃z,(bytesRow bs cap)[0+i*1+j]?=some z/\Rv (g.freeze w.heap.size (bytesRow bs cap)) c z:=by
   intro i x j c hx hj;rw[uD]at hx;simp at hx;obtain⟨b,hb,rfl⟩:=hx;have hj0:j=0:=by
    cases j with
    |zero=>rfl
    |succ j=>simp[V.cells]at hj
   subst hj0;simp[V.cells]at hj;subst hj;have hi:=(eY.1 hb);refine⟨.int .u8 b.toNat,?_,.int _ _⟩;have hlt:=hi.1;have h2:=hi.2;have e0:0+i*1+0=i:=by omega
   rw[e0,bytesRow,Array.getElem?_append_left (by simpa using hlt)];simp[hb]
  refine .list 1 (λi j=>((bytesRow bs cap)[0+i*1+j]?).getD Go.undef) (λx hx=>?_) (by omega) (λe=>by cases e) (λ_ _ _ h=>h.2 rfl) (λi x j c hx hj=>?_) (λi x j c hx hj=>?_)
  .rw[uD]at hx;simp at hx;obtain⟨b,_,rfl⟩:=hx;rfl
  .obtain⟨z,hz,_⟩:=hcell i x j c hx hj;rw[G.Ae,hz];rfl
  .obtain⟨z,hz,CV⟩:=hcell i x j c hx hj;rw[hz];exact CV
end
section
variable {P:Program}{comp:FuncId->Code->aN}{g g':G}{σ σ':H}{w w':World}{β:Nat->Option Nat}{lo lo':Lo}{fr:List V}{A:Act}
def CP:∀{cs:List V} {ns:List Nat},bytesOf cs=some ns->cs=ns.map (λn=>V.int .u8 (.ofNat n))/\∀n∈ns,n<256
 |[],ns,h=>by simp[bytesOf]at h;subst h;simp
 |c::cs,ns,h=>by
  unfold bytesOf at h
  split at h
  .rename_i n;generalize hq:Nat.blt n 256=q at h;cases q
   .cases h
   simp only[cond_true]at h;cases hb:bytesOf cs with
   |none=>rw[hb]at h;cases h
   |some r =>
    rw[hb]at h;simp only[aG]at h;subst h;obtain⟨h1,h2⟩:=CP hb;refine⟨by simp[h1],λm hm=>?_⟩;rcases bU.1 hm with rfl|hm
    .exact vg hq
    .exact h2 m hm
  .cases h
def strOf(ns:List Nat):ByteArray:=⟨(ns.map UInt8.ofNat).toArray⟩
def an9{ns:List Nat}(h:∀n∈ns,n<256):Rv g (.str ns) (.string (strOf ns)):=by
 have:ns=(strOf ns).data.toList.map UInt8.toNat:=by
  simp[strOf];apply List.ext_getElem
  .simp
  .intro i h1 h2;simp;exact(Nat.mod_eq_of_lt (h _ (ku _))).symm
 conv=>lhs;rw[this]
 exact .str _
def Ho(hw:Rw P comp g σ w){v:V}{X:Value}{ns:List Nat}(hr:Rs g β v X)(h:bytesIn σ v=some ns) :
  (∀n∈ns,n<256)/\((X=.slice none 0 0/\ns=[])\/∃b off cap,X=.slice (some ⟨b,off,none⟩) ns.length cap/\∀j n,ns[j]?=some n->w.cell? ⟨b,off+j,none⟩=some (.int .u8 (.ofNat n))):=by
 cases v<;>try (simp[bytesIn]at h;done)
 .simp[bytesIn]at h;subst h;cases hr;exact⟨by simp,.inl ⟨rfl,rfl⟩⟩
 .rename_i xs ex;simp only[bytesIn]at h;obtain⟨h1,h2⟩:=CP h;refine⟨h2,.inr ?_⟩;cases hr with
  |@list _ _ b o cap k vs hk hc he hpn hv hr =>
  have hlen:xs.length=ns.length:=by rw[h1];simp
  refine⟨b,o,cap,by rw[hlen],λj n hn=>?_⟩;have hx:xs[j]?=some (V.int .u8 (.ofNat n)):=by rw[h1];simp[hn]
  have hk1:k=1:=by have:=hk _ (lK hx);simp[V.cells]at this;omega
  subst hk1;have a1:=hw.frozen _ _ _ (hv j _ 0 _ hx rfl);have a2:=hr j _ 0 _ hx rfl;have e0:o+j*1+0=o+j:=by omega
  rw[e0]at a1;rw[a1];generalize vs j 0=z at a2;cases a2;rfl
 .rename_i id off len cap sz;simp only[bytesIn]at h;cases ht:yC len (getCells σ id) off with
  |none=>rw[ht]at h;cases h
  |some cs =>
  rw[ht]at h;dsimp only at h;obtain⟨h1,h2⟩:=CP h;refine⟨h2,.inr ?_⟩;cases hg:getCells σ id with
  |none=>rw[hg]at ht;cases ht
  |some ds =>
  rw[hg]at ht;simp only[yC,xF]at ht;obtain⟨t1,t2⟩:=pK ht;cases hr with
  |@hsl _ b n _ _ _ c' _ hρ hlc hcap hn =>
  obtain⟨b',m,C,ty,r,k2,k3,k5,k4,k6,_⟩:=hw.cells hg;obtain⟨rfl,rfl⟩:=Prod.mk.inj (gZ (r.symm.trans hρ));have hlen:len=ns.length:=by
   have:=congrArg List.length h1;rw[t2]at this;simp at this t1;omega
  refine⟨b',off,c',by rw[hlen],λj n hn=>?_⟩;have hx:cs[j]?=some (V.int .u8 (.ofNat n)):=by rw[h1];simp[hn]
  have hjl:j<len:=by rw[hlen];exact(fB.1 hn).1
  rw[t2,jd,if_pos hjl,jm]at hx;obtain⟨z,hz,CV⟩:=k4 _ _ hx;rw[xK k2,hz];cases CV;rfl
def aaM{d:Nat}{o:Oper}{x:Operand}{x':aC}{s t el:TypeId}(hs:P.underlying s=some (.slice el))(he:P.underlying el=some (.int .u8))(ht:P.underlying t=some .string)(hx:bQ x=some x')(ho:o.op=.convert s t x) :
  Sound P comp d (.toStr x') o:=by
 intro g β σ lo fr A w v lo' σ' h e;have hr:=Rs.ev h.f hx;simp only[aK,uj]at e;cases hb:bytesIn σ (x'.ev fr)with
 |none=>rw[hb]at e;cases e
 |some ns =>
 rw[hb]at e;simp only[OR.ok.injEq]at e;obtain⟨rfl,rfl,rfl⟩:=e;obtain⟨h1,h2⟩:=Ho h.w hr hb;refine .pure h (x:=.string (strOf ns)) ?_ (.dK (an9 h1));have hrun:(convert s t (A.eval x)).run P w=.ok (.string (strOf ns)) w:=by
  rcases h2 with⟨hX,rfl⟩|⟨b,off,cap,hX,hc⟩
  .rw[hX];have:=run_convert_bytes_nil (P:=P) w s el hs he 0 0 t ht;rw[this];rfl
  .rw[hX];have:=run_convert_bytes_back (P:=P) w s t el ⟨b,off,none⟩ cap (ns.map UInt8.ofNat) hs he ht (λj hj=>by
    have hj':j<ns.length:=by simpa using hj
    rw[oh,hc j ns[j] (bV hj')];have:=h1 ns[j] (ku _);simp[Nat.mod_eq_of_lt this])
   simp only[jo]at this;exact this
 simp only[execOp,ho,aH,hrun,Result.andThen,Sem.run_pure]
end
section
variable {P:Program}{comp:FuncId->Code->aN}{g g':G}{σ σ':H}{w w':World}{β:Nat->Option Nat}{lo lo':Lo}{fr:List V}{A:Act}
def Tn{k:Nat}:∀{xs:List V} {p:Nat} {c:V},(∀x∈xs,x.cells.length=k)->(oO xs)[p]?=some c->∃i j x,xs[i]?=some x/\x.cells[j]?=some c/\p=i*k+j
 |[],p,c,_,h=>by simp[oO]at h
 |x::xs,p,c,hk,h=>by
  have h0:=hk x (by simp);have:oO (x::xs)=x.cells++oO xs:=by cases x<;>rfl
  rw[this,yR]at h;by_cases hp:p<x.cells.length
  .rw[if_pos hp]at h;exact⟨0,p,x,rfl,h,by simp⟩
  .rw[if_neg hp]at h;obtain⟨i,j,y,h1,h2,h3⟩:=Tn (λy hy=>hk y (bW _ hy)) h;exact⟨i+1,j,y,h1,h2,by rw[kW];omega⟩
def YH(sz n:Nat){b off len cap:Nat}{cs:List V}(hl:cs.length=n*sz)(h:∀j c,cs[j]?=some c->∃z,w.cell? ⟨b,off+j,none⟩=some z/\Rv g c z) :
  ∃C:List Value,(Builtin.firstCells sz n (.slice (some ⟨b,off,none⟩) len cap)).run P w=.ok C.toArray w/\lW g cs C:=by
 refine⟨(List.range cs.length).map λj=>(w.cell? ⟨b,off+j,none⟩).getD Go.undef,?_,by simp,λi v z hv hz=>?_⟩
 .refine run_firstCells_some w sz n ⟨b,off,none⟩ len cap _ (by simp[hl]) (λj v hj=>?_);simp[iW]at hj;obtain⟨q,hq,rfl⟩:=hj;have hq':=fB.1 hq;obtain⟨hlt,rfl⟩:=hq';simp at hlt;obtain⟨z,hz,_⟩:=h j _ (bV hlt);simp[oh,hz]
 .have hlt:=(fB.1 hv).1;obtain⟨y,hy,hr⟩:=h i v hv;simp[hlt,hy]at hz;subst hz;exact hr
def uU(hw:Rw P comp g σ w){v:V}{X:Value}{cs:List V}{sz n:Nat}(hr:Rs g β v X)(h:bJ σ sz n v=some cs) :
  cs.length=n*sz/\∃C:List Value,(Builtin.firstCells sz n X).run P w=.ok C.toArray w/\lW g cs C:=by
 cases v<;>try (simp[bJ]at h;done)
 .rename_i s;simp only[bJ]at h;generalize hq:Nat.beq sz 1=q at h;cases q
  .cases h
  have:=aP hq;subst this;simp only[cond_true]at h;obtain⟨bs,rfl,rfl⟩:=yu hr rfl;obtain⟨t1,t2⟩:=pK h;simp[uD]at t1;refine⟨by rw[t2];simp[uD];omega,((bs.extract 0 n).data.map λb=>Value.int .u8 b.toNat).toList,by simp[Builtin.firstCells];apply Array.ext';simp,?_⟩;rw[t2];refine⟨by simp[uD],λi v z hv hz=>?_⟩;simp[uD,jd]at hv;simp[jd]at hz;obtain⟨hi,a,ha,rfl⟩:=hv;rw[ha]at hz;simp[hi]at hz;subst hz;exact .int _ _
 .simp only[bJ]at h;generalize hq:Nat.beq n 0=q at h;cases q
  .cases h
  have:=aP hq;subst this;simp at h;subst h;cases hr;exact⟨by simp,[],by simp[Builtin.firstCells],.nil _⟩
 .rename_i xs ex;simp only[bJ]at h;generalize hq:(xY sz xs&&Nat.ble n xs.length)=q at h;cases q
  .cases h
  simp only[ah]at hq;have hle:=jA hq.2;simp only[cond_true]at h;obtain⟨t1,t2⟩:=pK h;cases hr with
  |@list _ _ b o cap k vs hk hc he hpn hv hr =>
  have hks:n=0\/k=sz:=by
   cases xs with
   |nil=>left;simp at hle;exact hle
   |cons x xs =>
    right
    have a1:=hk x (by simp);have a2:=aP hq.1;omega
  have hl:cs.length=n*sz:=by rw[t2];simp;omega
  refine⟨hl,YH sz n hl (λj c hj=>?_)⟩;rw[t2,jd]at hj
  split at hj
  .rename_i hjn;rcases hks with rfl|rfl
   .simp at hjn
   obtain⟨i,j',x,h1,h2,h3⟩:=Tn hk hj;have a1:=hw.frozen _ _ _ (hv i x j' c h1 h2);exact⟨_,by rw[h3,<- gq];exact a1,hr i x j' c h1 h2⟩
  .cases hj
 .rename_i id off len cap sz';simp only[bJ]at h;generalize hq:(Nat.beq sz sz'&&Nat.ble n len)=q at h;cases q
  .cases h
  simp only[ah]at hq;simp only[cond_true]at h;have hle:=jA hq.2;cases hg:getCells σ id with
  |none=>rw[hg]at h;cases h
  |some ds =>
  rw[hg]at h;simp only[yC,xF]at h;obtain⟨t1,t2⟩:=pK h;cases hr with
  |@hsl _ b m _ _ _ c' _ hρ hlc hcap hn =>
  obtain⟨b',m,C,ty,r,k2,k3,k5,k4,k6,_⟩:=hw.cells hg;obtain⟨rfl,rfl⟩:=Prod.mk.inj (gZ (r.symm.trans hρ));have hl:cs.length=n*sz:=by rw[t2];simp at t1|-;omega
  refine⟨hl,YH sz n hl (λj c hj=>?_)⟩;rw[t2,jd]at hj
  split at hj
  .rw[jm]at hj;obtain⟨z,hz,CV⟩:=k4 _ _ hj;exact⟨z,by rw[xK k2];exact hz,CV⟩
  .cases hj
end
section
variable {P:Program}{comp:FuncId->Code->aN}{g g':G}{σ σ':H}{w w':World}{β:Nat->Option Nat}{lo lo':Lo}{fr:List V}{A:Act}
def UA{v:V}{X:Value}{n:Nat}(hr:Rs g β v X)(h:fH v=some n):(Builtin.lenOf X).run P w=.ok n w:=by
 cases v<;>simp[fH]at h<;>subst h
 .obtain⟨bs,rfl,rfl⟩:=yu hr rfl;simp[Builtin.lenOf]
 .cases hr;simp[Builtin.lenOf]
 .cases hr;simp[Builtin.lenOf]
 .cases hr;simp[Builtin.lenOf]
def St.write(h:St P comp g β σ lo fr A w){id off:Nat}{cs vs q:List V}{W:List Value}{b n:Nat}(hg:getCells σ id=some cs)(hρ:g.ρ id=some (b,n))(hv:lW g vs W)(ho:bf vs=true)(hs:splice off cs vs=some q) :
  ∃w',(storeCells ⟨b,off,none⟩ W).run P w=.ok () w'/\(∀(v:V) (x:Value),Rs g β v x->∀r,r=.ok (.value x) w'->pO P comp g β σ w v lo (σ.set id (.cells q)) r)/\(∀r,r=.ok .skip w'->pO P comp g β σ w .undef lo (σ.set id (.cells q)) r):=by
 obtain⟨b',m,C,ty,r,h2,h3,h5,h4,h6,hlive⟩:=h.w.cells hg;obtain⟨rfl,rfl⟩:=Prod.mk.inj (gZ (r.symm.trans hρ));obtain⟨k1,k2,k3⟩:=spliced (g:=g) (C:=C.toList) ⟨by simp[h3];omega,λj x hx=>let⟨z,hz,hr⟩:=h4 j x hx;⟨z,by simpa using hz,hr⟩⟩ hv hs;have hone:=Qr hv ho;have hst:=run_storeCells_at (P:=P) b' off ty W 0 C w h2 (by simpa using k1) hone;simp only[Nat.add_zero]at hst;have hoth:∀k,k≠b'->(w.setRow b' (C.toList.take off++W++C.toList.drop (off+W.length)).toArray).heap[k]?=w.heap[k]?:=λk hk=>setRow_other w b' k _ hk;have hlv:∀k,Live g (σ.set id (.cells q)) k->Live g σ k:=by
  rintro k ⟨i,m',hi,hb'⟩
  rw[H.qG]at hi;by_cases e1:id=i
  .subst e1;exact⟨id,m',by simp[jq hg],hb'⟩
  .simp[e1]at hi;exact⟨i,m',hi,hb'⟩
 have hro:Ro P comp g (.cells q) b' m (w.setRow b' (C.toList.take off++W++C.toList.drop (off+W.length)).toArray) :=
  ⟨_,ty,setRow_heap w b' C _ ty (0,0) h2,by simp at k1|-;omega,by omega,λj x hx=>let⟨z,hz,hr⟩:=k3 j x hx;⟨z,by simpa using hz,hr⟩⟩
 have hw':=h.w.put (by simp[jq hg]) r (by simp) hoth hro;have hb':=h.b.same (.refl g) (λk hl _=>hlv k hl) (λ_ _ hp _ o=>hp o) (λt k e'=>hoth k (by intro e'';subst e'';exact(h.b.apart t k e').1 hlive));have ay4:Frm g σ (GU β) w (w.setRow b' (C.toList.take off++W++C.toList.drop (off+W.length)).toArray):=⟨rfl,rfl,rfl,by simp,λk _ hk _ _=>hoth k (by intro e';subst e';exact hk hlive)⟩;exact⟨_,hst,λv x hvx r hr=>⟨x,_,g,.inl hr,.refl g,hvx,hw',hb',ay4,λb hl _=>hlv b hl,λ_ _ h _=>h⟩,λr hr=>⟨_,_,g,.inr ⟨hr,rfl⟩,.refl g,.dK (.undef _),hw',hb',ay4,λb hl _=>hlv b hl,λ_ _ h _=>h⟩⟩
def ak0{v:V}{X:Value}{n:Nat}(sz:Nat)(hr:Rs g β v X)(h:fH v=some n):(Builtin.firstCells sz 0 X).run P w=.ok #[] w:=by
 cases v<;>simp[fH]at h<;>subst h
 .obtain⟨bs,rfl,rfl⟩:=yu hr rfl;simp[Builtin.firstCells]
 .cases hr;simp[Builtin.firstCells]
 .cases hr;simp[Builtin.firstCells,loadCells,loadCellsFrom]
 .cases hr;simp[Builtin.firstCells,loadCells,loadCellsFrom]
def adR{d:Nat}{o:Oper}{x y:Operand}{x' y':aC}{ats:Array TypeId}{t el:TypeId}{sz:Nat}(ht:ats[0]?=some t)(hu:P.underlying t=some (.slice el))(hz:lY P el=some sz)(hx:bQ x=some x')(hy:bQ y=some y')
  (ho:o.op=.call { callee:=.builtin .copy,args:=#[x,y],argTypes:=ats }):Sound P comp d (.copy sz x' y') o:=by
 intro g β σ lo fr A w v lo' σ' h e;have hrx:=Rs.ev h.f hx;have hry:=Rs.ev h.f hy;simp only[aK,uF]at e;generalize hvx:x'.ev fr=vx at e hrx;generalize hvy:y'.ev fr=vy at e hry;cases hn:fH vy with
 |none=>rw[hn]at e;cases e
 |some n =>
 rw[hn]at e;dsimp only at e;cases hm:lenOf σ 0 vx with
 |none=>rw[hm]at e;cases e
 |some m =>
 rw[hm]at e;dsimp only at e;have hmin:(bif Nat.ble n m then n else m)=Nat.min n m:=by
  cases hq:Nat.ble n m
  .have:¬n<=m:=λhle=>by rw[Nat.ble_eq_true_of_le hle]at hq;cases hq
   show m=min n m;omega
  .have:=jA hq;show n=min n m;omega
 rw[hmin]at e;have hlen:=UA (P:=P) (w:=w) hry hn;generalize hX:A.eval x=X at hrx;generalize hY:A.eval y=Y at hry hlen;have hex:∀(r:Result Value),(Builtin.copy_ ats o.type #[X,Y]).run P w=r->(execOp A.eval o).run P w=r.andThen λv w=>.ok (.value v) w:=by
  intro r hr;simp only[execOp,ho,resolve,invoke,builtin,aH,Sem.run_pure,Result.andThen];simp[hX,hY,hr]
 have zero:∀(b:Option Addr) (c:Nat),X=.slice b m c->(bif Nat.beq (Nat.min n m) 0 then OR.ok (.int .i64 0) lo σ else .fail)=.ok v lo' σ'->pO P comp g β σ w v lo' σ' ((execOp A.eval o).run P w):=by
  intro b c hXb e;generalize hq:Nat.beq (Nat.min n m) 0=q at e;cases q
  .cases e
  simp only[cond_true,OR.ok.injEq]at e;obtain⟨rfl,rfl,rfl⟩:=e;have h0:=aP hq;have hf:=ak0 (P:=P) (w:=w) sz hry hn;refine .pure h (x:=.int .i64 0) ?_ (.dK (.int _ _));rw[hex (.ok (.int .i64 0) w)]
  .rfl
  .subst hXb;cases b<;>simp[Builtin.copy_,ht,aH,run_underlying hu,hlen,h0,jl hz,hf,Result.andThen,goInt,storeCells]
 cases vx<;>try (simp[lenOf]at hm;done)
 .simp[lenOf]at hm;subst hm;cases hrx;exact zero none 0 rfl e
 .simp[lenOf]at hm;subst hm;cases hrx;exact zero _ _ rfl e
 .rename_i id off len cap sz';simp[lenOf]at hm;subst hm;simp only[zl]at e;generalize hq:Nat.beq sz sz'=q at e;cases q
  .cases e
  simp only[cond_true]at e;cases hs:bJ σ sz (Nat.min n len) vy with
  |none=>rw[hs]at e;cases e
  |some new =>
  rw[hs]at e;dsimp only at e;cases hg:getCells σ id with
  |none=>rw[hg]at e;cases e
  |some cs =>
  rw[hg]at e;dsimp only at e;generalize hq2:bf new=q2 at e;cases q2
  .cases e
  simp only[cond_true]at e;cases hp:splice off cs new with
  |none=>rw[hp]at e;cases e
  |some r =>
  rw[hp]at e;simp only[OR.ok.injEq]at e;obtain⟨rfl,rfl,rfl⟩:=e;obtain⟨k1,C,k2,k3⟩:=uU (P:=P) h.w hry hs;cases hrx with
  |@hsl _ b m' _ _ _ c' _ hρ hlc hcap hnn =>
  obtain⟨w',s1,s2,_⟩:=h.write hg hρ k3 hq2 hp;refine s2 _ (.int .i64 (Nat.min n len)) (.dK (.int _ _)) _ ?_;rw[hex (.ok (.int .i64 (Nat.min n len)) w')]
  .rfl
  .simp[Builtin.copy_,ht,aH,run_underlying hu,hlen,jl hz,k2,s1,Result.andThen,goInt]
end
section
variable {P:Program}{comp:FuncId->Code->aN}{g g':G}{σ σ':H}{w w':World}{β:Nat->Option Nat}{lo lo':Lo}{fr:List V}{A:Act}
def Qp{need c:Nat}(h:c<need):Builtin.nextslicecap need c<=2*need+1000:=by
 unfold Builtin.nextslicecap
 split
 .omega
 .split
  .omega
  .rw[growBy_four]
   repeat' split
   all_goals omega
def KW{ats:Array TypeId}{t u ty e:TypeId}{i:TypeInfo}{z X Y:Value}{base:Option Addr}{sLen sCap n:Nat}{olds news:Array Value}{du:TypeDesc}
  (h0:ats[0]?=some t) (h1:ats[1]?=some u) (ht:P.underlying t=some (.slice e)) (hu:P.underlying u=some du) (hdu:∀k,du≠.int k) (hi:P.info? e=some i) (hz:i.zero=some z)
  (hX:X=.slice base sLen sCap) (hn:(Builtin.lenOf Y).run P w=.ok n w) (ho:(Builtin.firstCells i.size sLen X).run P w.drew=.ok olds w.drew) (hnew:(Builtin.firstCells i.size n Y).run P w.drew=.ok news w.drew)
  (hg:sCap<sLen+n) (hm:sLen+n<=16777216) (hb:i.bytes<=65536) :
  (Builtin.append_ ats ty #[X,Y]).run P w=.ok (.slice (some ⟨w.heap.size,0,none⟩) (sLen+n) (grownCap w (sLen+n) sCap e)) (w.drew.alloc (.cells (olds++news++Builtin.zeroCells z.cells (grownCap w (sLen+n) sCap e-(sLen+n))) e)):=by
 subst hX;have hint:(match du with|.int _=>true|_=>false)=false:=by
  cases du<;>first|rfl|exact absurd rfl (hdu _)
 have hn':¬(sLen+n<=sCap):=by omega
 have h63':¬(9223372036854775807<((sLen:Int)+(n:Int))):=by omega
 have h48:=Qp hg;have h48':¬(281474976710656<Builtin.nextslicecap (sLen+n) sCap*i.bytes):=by
  have:Builtin.nextslicecap (sLen+n) sCap*i.bytes<=33555432*65536:=Nat.mul_le_mul (by omega) hb;omega
 simp[Builtin.append_,h0,h1,run_underlying ht,run_underlying hu,sizeOf,typeInfo,zeroValue,hi,hz,hn,hn',h63',h48',Question.forced,ho,hnew,newRow,grownCap,Result.andThen]
def run_append_fits{ats:Array TypeId}{t u ty e:TypeId}{i:TypeInfo}{X Y:Value}{base:Option Addr}{sLen sCap n:Nat}{news:Array Value}{du:TypeDesc}
  (h0:ats[0]?=some t) (h1:ats[1]?=some u) (ht:P.underlying t=some (.slice e)) (hu:P.underlying u=some du) (hdu:∀k,du≠.int k) (hi:P.info? e=some i)
  (hX:X=.slice base sLen sCap) (hn:(Builtin.lenOf Y).run P w=.ok n w) (hnew:(Builtin.firstCells i.size n Y).run P w=.ok news w)
  (hg:sLen+n<=sCap) (hs:∀a,base=some a->(storeCells (a.add (sLen*i.size)) news.toList).run P w=.ok () w') (hs0:base=none->w'=w) :
  (Builtin.append_ ats ty #[X,Y]).run P w=.ok (.slice base (sLen+n) sCap) w':=by
 subst hX;have hint:(match du with|.int _=>true|_=>false)=false:=by
  cases du<;>first|rfl|exact absurd rfl (hdu _)
 cases base with
 |none =>
  rw[hs0 rfl];simp[Builtin.append_,h0,h1,run_underlying ht,run_underlying hu,sizeOf,typeInfo,hi,hn,hg,hnew,Result.andThen]
 |some a =>
  have hst:=hs a rfl;simp[Builtin.append_,h0,h1,run_underlying ht,run_underlying hu,sizeOf,typeInfo,hi,hn,hg,hnew,hst,Result.andThen]
end
section
variable {P:Program}{comp:FuncId->Code->aN}{g g':G}{σ σ':H}{w w':World}{β:Nat->Option Nat}{lo lo':Lo}{fr:List V}{A:Act}
def Live.Dn{id b:Nat}(h:Live g (σ.del id) b):Live g σ b:=by
 obtain⟨i,n,hi,hr⟩:=h;rw[H.Ag]at hi;by_cases e:id=i
 .simp[e]at hi
 .simp[e]at hi;exact⟨i,n,hi,hr⟩
def Dj(hw:Rw P comp g σ w){id b n:Nat}(hi:(σ.get id).isSome=true)(hr:g.ρ id=some (b,n)):¬Live g (σ.del id) b:=by
 rintro ⟨i,m,h1,h2⟩
 rw[H.Ag]at h1;by_cases e:id=i
 .simp[e]at h1
 .simp[e]at h1;exact e (hw.inj id i b n m hi h1 hr h2)
def St.del(h:St P comp g β σ lo fr A w)(id:Nat):St P comp g β (σ.del id) lo fr A w :=
 ⟨h.f,⟨h.b.boxes,λt b e=>⟨λhl=>(h.b.apart t b e).1 hl.Dn,(h.b.apart t b e).2⟩,h.b.inj⟩,h.w.del id⟩
def pO.Dn{id:Nat}{v:V}{r:Result Next}(h:pO P comp g β (σ.del id) w v lo' σ' r):pO P comp g β σ w v lo' σ' r:=by
 obtain⟨x,w',g',hr,hle,hv,hw,hb,hf,hl,hp⟩:=h;exact⟨x,w',g',hr,hle,hv,hw,hb,⟨hf.os,hf.tape,hf.output,hf.size,λk hk hn hb hp=>hf.block k hk (λhl=>hn hl.Dn) hb hp⟩,λb h1 h2=>(hl b h1 h2).Dn,λb h1 h2 h3=>hp b h1 h2 (λhl=>h3 hl.Dn)⟩
def pO.grown(h:St P comp g β σ lo fr A w){e:TypeId}{n cap sz:Nat}{cs:List V}{olds news:List Value}{z:Array Value}{r:Result Next}{w':World}(hz:z.size=sz)(hc:lW g cs (olds++news))(hl:cs.length=n*sz)(hcap:n<=cap)
  (hw':w'=w.drew.alloc (.cells (olds.toArray++news.toArray++Builtin.zeroCells z (cap-n)) e)) (hr:r=.ok (.value (.slice (some ⟨w.heap.size,0,none⟩) n cap)) w') :
  pO P comp g β σ w (.hsl σ.next 0 n none sz) lo (σ.new (.cells cs)) r:=by
 have hsz:(olds.toArray++news.toArray++Builtin.zeroCells z (cap-n)).size=cap*sz:=by
  have:=hc.1;simp at this;simp[size_zeroCells,hz];rw[Nat.sub_mul];have:n*sz<=cap*sz:=uK _ hcap;omega
 have hle:=G.yJ (g:=g) (w.heap.size,cap*sz) (h.w.fresh _ (aJ _)).1;refine pO.new h (gob:=.cells (olds.toArray++news.toArray++Builtin.zeroCells z (cap-n)) e) (n:=cap*sz) (w':=w') (by subst hw';exact⟨rfl,rfl,rfl,rfl⟩) hr ?_ (.hsl (G.rV _ _ _) hcap (λc hc=>by cases hc) (by simp));refine⟨_,e,by rw[hw'];exact World.alloc_heap_new w.drew _,hsz,?_,λj x hx=>?_⟩
 .rw[hl];exact uK _ hcap
 .obtain⟨y,hy,hyr⟩:=hc.get hx;refine⟨y,?_,hyr.mono hle⟩;have hlt:=(fB.1 hy).1;rw[Array.getElem?_append_left (by simpa using hlt)];simpa using hy
end
section
variable {P:Program}{comp:FuncId->Code->aN}{g g':G}{σ σ':H}{w w':World}{β:Nat->Option Nat}{lo lo':Lo}{fr:List V}{A:Act}
def FK{e:TypeId}{s:Nat}(h:RI P e=some s):∃it Z,P.info? e=some it/\it.zero=some Z/\it.size=s/\s≠0/\it.bytes<=65536/\∃z,nR P e=some z/\z.cells.length=s:=by
 unfold RI at h;cases hi:P.info? e with
 |none=>rw[hi]at h;cases h
 |some it =>
 rw[hi]at h;cases hz:nR P e with
 |none=>rw[hz]at h;cases h
 |some z =>
 rw[hz]at h;simp only[jc,Option.bind_some]at h
 split at h
 .cases h
 .rename_i hq;simp at hq h;subst h;obtain⟨it',Z,h1,h2,_⟩:=OB hz;rw[hi]at h1;cases h1;exact⟨it,Z,rfl,h2,rfl,hq.1.1,hq.1.2,z,rfl,hq.2⟩
structure ajr (P:Program)(w:World)(ats:Array TypeId)(t u e:TypeId)(i:TypeInfo)(Z:Value)(du:TypeDesc)(Y:Value)(n:Nat):Prop where
 h0:ats[0]?=some t
 h1:ats[1]?=some u
 ht:P.underlying t=some (.slice e)
 hu:P.underlying u=some du
 hdu:∀k,du≠.int k
 hi:P.info? e=some i
 hz:i.zero=some Z
 hZ:Z.cells.size=i.size
 hb:i.bytes<=65536
 hn:(Builtin.lenOf Y).run P w=.ok n w
def Iu{ats:Array TypeId}{t u e ty:TypeId}{i:TypeInfo}{Z X Y:Value}{du:TypeDesc}{n sLen sCap:Nat}{base:Option Addr}{old new:List V}{OL NW:List Value}{v:V}{r:Result Next}
  (h:St P comp g β σ lo fr A w) (K:ajr P w ats t u e i Z du Y n) (hX:X=.slice base sLen sCap) (hg:sCap<sLen+n)
  (ho:(Builtin.firstCells i.size sLen X).run P w.drew=.ok OL.toArray w.drew) (hov:lW g old OL) (hol:old.length=sLen*i.size)
  (hnw:(Builtin.firstCells i.size n Y).run P w.drew=.ok NW.toArray w.drew) (hnv:lW g new NW) (hnl:new.length=n*i.size)
  (e1:iJ σ (sLen+n) i.size (some old) new=some (v,σ')) (hr:r=((Builtin.append_ ats ty #[X,Y]).run P w).andThen λv w=>.ok (.value v) w):pO P comp g β σ w v lo σ' r:=by
 simp only[iJ]at e1;generalize hq:Nat.ble (sLen+n) 16777216=q at e1;cases q
 .cases e1
 simp only[cond_true,aG,Prod.mk.injEq]at e1;obtain⟨rfl,rfl⟩:=e1;have hm:=jA hq;have hrun:=KW (P:=P) (ty:=ty) K.h0 K.h1 K.ht K.hu K.hdu K.hi K.hz hX K.hn ho hnw hg hm K.hb;rw[hrun]at hr;exact pO.grown h K.hZ (hov.append hnv) (by simp[hol,hnl,Nat.add_mul]) (grownCap_ge w (sLen+n) sCap e) rfl hr
end
section
variable {P:Program}{comp:FuncId->Code->aN}{g g':G}{σ σ':H}{w w':World}{β:Nat->Option Nat}{lo lo':Lo}{fr:List V}{A:Act}
def acE{v:V}{X:Value}(hr:Rs g β v X)(h:yH v=true):∃base l c,X=.slice base l c/\l<=c:=by
 cases v<;>try (cases h;done)
 .cases hr;exact⟨_,_,_,rfl,aJ _⟩
 .cases hr with
  |list k vs hk hc he _ hv hr=>exact⟨_,_,_,rfl,hc⟩
 .cases hr with
  |hsl h hl hc hn=>exact⟨_,_,_,rfl,hl⟩
def Rw.drew(h:Rw P comp g σ w):Rw P comp g σ w.drew:=h.same (aJ _) (λ_ _=>rfl)
def ava{ats:Array TypeId}{t u e ty_:TypeId}{i:TypeInfo}{Z X Y:Value}{du:TypeDesc}{n len c' id b m:Nat}{old new cs:List V}{NW:List Value}{v:V}{r:Result Next}
  (h:St P comp g β σ lo fr A w) (K:ajr P w ats t u e i Z du Y n) (hg:getCells σ id=some cs) (hρ:g.ρ id=some (b,m)) (hX:X=.slice (some ⟨b,0,none⟩) len c') (hle:len+n<=c') (hmn:c'*i.size<=m)
  (ho:old=cs.take (len*i.size)) (hol:len*i.size<=cs.length) (hnw:(Builtin.firstCells i.size n Y).run P w=.ok NW.toArray w) (hnv:lW g new NW) (hnl:new.length=n*i.size) (hok:bf new=true)
  (e1:iJ (σ.del id) (len+n) i.size (some old) new=some (v,σ')) (hr:r=((Builtin.append_ ats ty_ #[X,Y]).run P w).andThen λv w=>.ok (.value v) w):pO P comp g β σ w v lo σ' r:=by
 simp only[iJ]at e1;generalize hq:Nat.ble (len+n) 16777216=q at e1;cases q
 .cases e1
 simp only[cond_true,aG,Prod.mk.injEq]at e1;obtain⟨rfl,rfl⟩:=e1;obtain⟨b',m',C,ty,r',h2,h3,h5,h4,h6,hlive⟩:=h.w.cells hg;obtain⟨rfl,rfl⟩:=Prod.mk.inj (gZ (r'.symm.trans hρ));have hsome:(σ.get id).isSome=true:=by simp[jq hg]
 have hnd:=Dj h.w hsome r';have hNW:NW.length=n*i.size:=by rw[<- hnv.1];exact hnl
 have hone:=Qr hnv hok;have hfit:len*i.size+NW.length<=C.size:=by
  rw[hNW,<- Nat.add_mul,h3];exact lM (uK _ hle) hmn
 have hst:=run_storeCells_at (P:=P) b' (len*i.size) ty NW 0 C w h2 (by simpa using hfit) hone;simp only[Nat.add_zero]at hst;have hoth:∀k,k≠b'->(w.setRow b' (C.toList.take (len*i.size)++NW++C.toList.drop (len*i.size+NW.length)).toArray).heap[k]?=w.heap[k]?:=λk hk=>setRow_other w b' k _ hk;have hrun:=run_append_fits (P:=P) (ty:=ty_) (w':=w.setRow b' (C.toList.take (len*i.size)++NW++C.toList.drop (len*i.size+NW.length)).toArray) (base:=some ⟨b',0,none⟩) (X:=X) K.h0 K.h1 K.ht K.hu K.hdu K.hi hX K.hn hnw hle (λa ha=>by cases ha;rw[oh];simpa using hst) (λe=>by cases e);rw[hrun]at hr;have hw1:=(h.w.del id).other hnd h6 (by simp) hoth;have hle':=G.yJ (g:=g) (b',m') (h.w.fresh _ (aJ _)).1;have hro:Ro P comp (g.bind σ.next (b',m')) (.cells (old++new)) b' m' (w.setRow b' (C.toList.take (len*i.size)++NW++C.toList.drop (len*i.size+NW.length)).toArray):=by
  refine⟨_,ty,setRow_heap w b' C _ ty (0,0) h2,by simp;omega,?_,λj x hx=>?_⟩
  .rw[ho];simp[hnl];have:len*i.size+n*i.size<=c'*i.size:=by rw[<- Nat.add_mul];exact uK _ hle
   omega
  .rw[yR]at hx;have aCo:old.length=len*i.size:=by rw[ho];simp;omega
   rw[aCo]at hx;have hCl:len*i.size<=C.size:=by omega
   split at hx
   .rename_i hj;rw[ho,jd,if_pos hj]at hx;obtain⟨z,hz,CV⟩:=h4 j x hx;refine⟨z,?_,CV.mono hle'⟩;simp only[List.getElem?_toArray,fP];rw[jf (by simp;omega),jd,if_pos hj];simpa using hz
   .rename_i hj;obtain⟨z,hz,CV⟩:=hnv.get hx;refine⟨z,?_,CV.mono hle'⟩;have hlt:=(fB.1 hz).1;simp only[List.getElem?_toArray,fP];rw[rE (by simp;omega),jf (by simp;omega)];rw[<- hz];congr 1;simp;omega
 have hw2:=hw1.add (b:=b') (n:=m') hnd h6 hro;have hlv:∀k,Live (g.bind σ.next (b',m')) ((σ.del id).new (.cells (old++new))) k->Live g σ k:=by
  rintro k ⟨i',m2,hi,hk⟩
  by_cases e:i'=σ.next
  .subst e;simp at hk;rw[<- hk.1];exact hlive
  .rw[G.lX _ e]at hk;rw[H.rY]at hi;simp[Ne.symm e]at hi;exact Live.Dn ⟨i',m2,hi,hk⟩
 refine⟨_,_,_,.inl hr,hle',.dK ?_,hw2,h.b.same hle' (λk hl _=>hlv k hl) (λk _ hp _ o=>hp o) (λt k e'=>hoth k (by intro e'';subst e'';exact(h.b.apart t k e').1 hlive)),⟨rfl,rfl,rfl,by simp,λk _ hk _ _=>hoth k (by intro e';subst e';exact hk hlive)⟩,λk hl _=>hlv k hl,λk _ hp _ o=>hp o⟩;exact .hsl (G.rV _ _ _) hle (λc hc=>by cases hc) (by simpa using hmn)
def avb{ats:Array TypeId}{t u e ty:TypeId}{i:TypeInfo}{Z X Y:Value}{du:TypeDesc}{n:Nat}{new:List V}{vx vy v:V}{r:Result Next}
  (h:St P comp g β σ lo fr A w) (K:ajr P w ats t u e i Z du Y n) (hX:Rs g β vx X) (hY:Rs g β vy Y) (hn:fH vy=some n) (hs:bJ σ i.size n vy=some new) (hok:bf new=true)
  (e1:ou σ i.size vx n new=some (v,σ')) (hr:r=((Builtin.append_ ats ty #[X,Y]).run P w).andThen λv w=>.ok (.value v) w):pO P comp g β σ w v lo σ' r:=by
 obtain⟨hnl,NW,hnw,hnv⟩:=uU (P:=P) h.w hY hs;obtain⟨_,NW',aqJ,aqI⟩:=uU (P:=P) h.w.drew hY hs;unfold ou at e1;generalize hq:Nat.beq n 0=q at e1;cases q
 .simp only[cond_false]at e1;cases vx<;>try (cases e1;done)
  .cases hX;dsimp only at e1;refine Iu (sLen:=0) (sCap:=0) h K rfl ?_ (OL:=[]) (old:=[]) (by simp[Builtin.firstCells]) (.nil _) (by simp) aqJ aqI hnl (by simpa using e1) hr;have:n≠0:=by intro e;subst e;cases hq
   omega
  .rename_i xs ex;dsimp only at e1;cases ex
   .cases e1
   simp only[cond_true]at e1;cases ho:bJ σ i.size xs.length (.list xs true)with
   |none=>rw[ho]at e1;cases e1
   |some old =>
   rw[ho]at e1;obtain⟨k1,OL,k2,k3⟩:=uU (P:=P) h.w.drew hX ho;have hnz:n≠0:=by intro e;subst e;cases hq
   cases hX with
   |@list _ _ b o cap k vs hk hc he hpn hv hrr =>
   have:=he rfl;subst this;exact Iu h K rfl (by omega) k2 k3 k1 aqJ aqI hnl e1 hr
  .rename_i id off len cap sz';dsimp only at e1;have hnz:n≠0:=by intro e;subst e;cases hq
   generalize hq2:Nat.beq i.size sz'=q2 at e1;cases q2
   .cases e1
   have:=aP hq2;subst this;simp only[cond_true]at e1;have hXr:Rv g (.hsl id off len cap i.size) X:=hX;cases hX with
   |@hsl _ b m _ _ _ c' _ hρ hlc hcap hmn =>
   cases cap with
   |some c =>
    have:=hcap c rfl;subst this;simp only[Aq]at e1;generalize hq3:Nat.ble (len+n) c'=q3 at e1;cases q3
    .simp only[cond_false]at e1;cases ho:bJ σ i.size len (.hsl id off len (some c') i.size)with
     |none=>rw[ho]at e1;cases e1
     |some old =>
     rw[ho]at e1;obtain⟨k1,OL,k2,k3⟩:=uU (β:=β) (P:=P) h.w.drew (.dK hXr) ho;have:¬len+n<=c':=λhle=>by rw[Nat.ble_eq_true_of_le hle]at hq3;cases hq3
     exact Iu h K rfl (by omega) k2 k3 k1 aqJ aqI hnl e1 hr
    .simp only[cond_true,aep]at e1;cases hg:getCells σ id with
     |none=>rw[hg]at e1;cases e1
     |some cs =>
     rw[hg]at e1;dsimp only at e1;cases hp:splice (off+len*i.size) cs new with
     |none=>rw[hp]at e1;cases e1
     |some q =>
     rw[hp]at e1;simp only[aG,Prod.mk.injEq]at e1;obtain⟨rfl,rfl⟩:=e1;obtain⟨w',s1,s2,_⟩:=h.write hg hρ hnv hok hp;have hle:=jA hq3;have hrun:=run_append_fits (P:=P) (ty:=ty) (w':=w') (base:=some ⟨b,off,none⟩) (X:=.slice (some ⟨b,off,none⟩) len c') K.h0 K.h1 K.ht K.hu K.hdu K.hi rfl K.hn hnw hle (λa ha=>by cases ha;rw[oh];simpa using s1) (λe=>by cases e);rw[hrun]at hr;exact s2 _ _ (.dK (.hsl hρ hle (λc hc=>by cases hc;rfl) hmn)) _ hr
   |none =>
    simp only[Aq]at e1;generalize hq3:Nat.beq off 0=q3 at e1;cases q3
    .cases e1
    have:=aP hq3;subst this;simp only[cond_true]at e1;cases ho:bJ σ i.size len (.hsl id 0 len none i.size)with
    |none=>rw[ho]at e1;cases e1
    |some old =>
    rw[ho]at e1;obtain⟨k1,OL,k2,k3⟩:=uU (β:=β) (P:=P) h.w.drew (.dK hXr) ho;by_cases hgr:c'<len+n
    .exact(Iu (h.del id) K rfl hgr k2 k3 k1 aqJ aqI hnl e1 hr).Dn
    .have hle:len+n<=c':=by omega
     cases hg:getCells σ id with
     |none=>simp[bJ,hg,yC]at ho
     |some cs =>
     have auj:old=cs.take (len*i.size)/\len*i.size<=cs.length:=by
      simp only[bJ,hg,yC,xF,rG]at ho;rw[abA,Nat.ble_eq_true_of_le (aJ len)]at ho;simp only[aU,cond_true]at ho;obtain⟨t1,t2⟩:=pK ho;exact⟨t2,t1⟩
     exact ava h K hg hρ rfl hle (by simpa using hmn) auj.1 auj.2 hnw hnv hnl hok e1 hr
 .have h0:=aP hq;subst h0;simp only[cond_true]at e1;generalize hq2:yH vx=q2 at e1;cases q2
  .cases e1
  simp only[cond_true,aG,Prod.mk.injEq]at e1;obtain⟨rfl,rfl⟩:=e1;obtain⟨base,l,c,rfl,hlc⟩:=acE hX hq2;have hf:=ak0 (P:=P) (w:=w) i.size hY hn;have hrun:=run_append_fits (P:=P) (ty:=ty) (w':=w) (base:=base) (X:=.slice base l c) K.h0 K.h1 K.ht K.hu K.hdu K.hi rfl K.hn hf (by omega) (λa _=>by simp[storeCells]) (λ_=>rfl);rw[hrun]at hr;exact .pure h hr hX
end
section
variable {P:Program}{comp:FuncId->Code->aN}{g g':G}{σ σ':H}{w w':World}{β:Nat->Option Nat}{lo lo':Lo}{fr:List V}{A:Act}
def Du{d:Nat}{o:Oper}{x y:Operand}{x' y':aC}{ats:Array TypeId}{t u e:TypeId}{du:TypeDesc}{s:Nat}(h0:ats[0]?=some t)(h1:ats[1]?=some u)(ht:P.underlying t=some (.slice e))(hu:P.underlying u=some du)
  (hdu:∀k,du≠.int k) (hs:RI P e=some s) (hx:bQ x=some x') (hy:bQ y=some y') (ho:o.op=.call { callee:=.builtin .append,args:=#[x,y],argTypes:=ats }):Sound P comp d (.append s x' y') o:=by
 intro g β σ lo fr A w v lo' σ' h e1;obtain⟨it,Z,k1,k2,rfl,k4,k5,z,k6,k7⟩:=FK hs;obtain⟨it',Z',q1,q2,q3⟩:=mX (g:=g) k6;rw[k1]at q1;cases q1;rw[k2]at q2;cases q2;have hZ:Z.cells.size=it.size:=by have:=q3.1;simp at this;omega
 have hrx:=Rs.ev h.f hx;have hry:=Rs.ev h.f hy;simp only[aK,dN]at e1;cases hn:fH (y'.ev fr)with
 |none=>rw[hn]at e1;cases e1
 |some n =>
 rw[hn]at e1;dsimp only at e1;cases hsrc:bJ σ it.size n (y'.ev fr)with
 |none=>rw[hsrc]at e1;cases e1
 |some new =>
 rw[hsrc]at e1;dsimp only at e1;generalize hq:bf new=q at e1;cases q
 .cases e1
 simp only[cond_true]at e1;cases ha:ou σ it.size (x'.ev fr) n new with
 |none=>rw[ha]at e1;cases e1
 |some p =>
 obtain⟨v2,σ2⟩:=p;rw[ha]at e1;simp only[SK,OR.ok.injEq]at e1;obtain⟨rfl,rfl,rfl⟩:=e1;refine avb (ty:=o.type) h ⟨h0,h1,ht,hu,hdu,k1,k2,hZ,k5,UA hry hn⟩ hrx hry hn hsrc hq ha ?_;simp only[execOp,ho,resolve,invoke,builtin,aH,Sem.run_pure,Result.andThen];simp
end
section
variable {P:Program}{comp:FuncId->Code->aN}{g g':G}{σ σ':H}{w w':World}{β:Nat->Option Nat}{lo lo':Lo}{fr:List V}{A:Act}
def KeyTy(P:Program)(kt:TypeId)(kc:Nat):Prop:=match kc with
 |0=>∃k,P.underlying kt=some (.int k)
 |1=>P.underlying kt=some .string
 |2=>∃el sz,P.underlying kt=some (.pointer el)/\(P.info? el).map (·.size)=some sz/\sz≠0
 |3=>P.underlying kt=some .bool
 |_=>False
def U9{kt:TypeId}{kc:Nat}(h:X4 P kt=some kc):KeyTy P kt kc:=by
 unfold X4 at h;cases hu:P.underlying kt with
 |none=>simp[hu]at h
 |some d =>
  rw[hu]at h;cases d<;>simp at h
  .subst h;exact hu
  .subst h;exact⟨_,hu⟩
  .subst h;exact hu
  .rename_i e;cases hs:lY P e with
   |none=>simp[hs]at h
   |some n =>
    simp[hs]at h;obtain⟨h1,rfl⟩:=h;exact⟨e,n,hu,hs,h1⟩
def run_checkKey{kt:TypeId}{kc:Nat}(hk:KeyTy P kt kc)(em:Bool){v:V}{K:Value}(hr:Rs g β v K)(hv:iy kc v=true):(Instr.checkKey em 10000 kt K).run P w=.ok () w:=by
 have unf:Instr.checkKey em 10000 kt K=Instr.checkKey em (9999+1) kt K:=rfl;rw[unf,Instr.checkKey];unfold KeyTy at hk
 split at hk
 .obtain⟨k,hk⟩:=hk;rw[aH,run_underlying hk];rfl
 .rw[aH,run_underlying hk];rfl
 .obtain⟨el,sz,hk,_⟩:=hk;rw[aH,run_underlying hk];rfl
 .rw[aH,run_underlying hk];rfl
 .exact hk.elim
def Yw{t:TypeId}{a b:Option Addr}{q:Bool}(h:Eb P t (.pointer a) (.pointer b) w q):(Op.equal t (.pointer a) (.pointer b)).run P w=.ok q w:=by
 have h:=h .eql (.inl rfl);have:binOp .eql t (.pointer a) (.pointer b)=(do pure (.bool (<- Op.equal t (.pointer a) (.pointer b)))):=by
  unfold binOp;simp
 rw[this,aH]at h;cases hr:(Op.equal t (.pointer a) (.pointer b)).run P w with
 |ok r w1 =>
  rw[hr]at h;simp[Result.andThen]at h;rw[h.1,h.2]
 |halt x w1=>rw[hr]at h;simp[Result.andThen]at h
def akL(hw:Rw P comp g σ w){i o:Nat}{vy:V}{x y:Value}{b:Bool}(hx:Rs g β (.bg i o) x)(hy:Rv g vy y)(e:jY σ (.bg i o) vy=some b):b=true<->x=y:=by
 cases hx with
 |bg _ hr1 =>
 cases vy with
 |nilPtr=>cases hy;simp[jY]at e;subst e;simp
 |bg j p =>
  simp only[jY]at e
  split at e<;>try cases e
  rename_i cs hcs
  split at e<;>try cases e
  rename_i ds hds;generalize hq:(Nat.blt o cs.length&&Nat.blt p ds.length)=q at e;cases q
  .simp at e
  simp at e;cases hy with
  |bg _ hr2 =>
  rw[<- e];simp only[ah,Nat.beq_eq];constructor
  .rintro ⟨rfl,rfl⟩
   rw[hr1]at hr2;cases hr2;rfl
  .intro h';cases h';exact⟨hw.inj i j _ _ _ (by simp[jq hcs]) (by simp[jq hds]) hr1 hr2,rfl⟩
 |_=>simp[jY]at e
def V7{kt:TypeId}{kc:Nat}(hk:KeyTy P kt kc)(hw:Rw P comp g σ w){v v':V}{K K':Value}{b:Bool}(hr:Rs g β v K)(hv:iy kc v=true)(hr':Rv g v' K')(e:eqV σ v v'=some b) :
  (b=true<->K=K')/\∃kind,P.underlying kt=some kind/\((kc≠2/\Instr.sameNow kind K K'=some b)\/(kc=2/\Instr.sameNow kind K K'=none/\(Op.equal kt K K').run P w=.ok b w)):=by
 cases v<;>simp[iy]at hv
 .subst hv;rename_i q;cases v'<;>simp[eqV,sS]at e;rename_i q';cases hr;cases hr';refine⟨by subst e;cases q<;>cases q'<;>simp,_,hk,.inl ⟨by simp,?_⟩⟩;subst e;cases q<;>cases q'<;>rfl
 .subst hv;rename_i k a;obtain⟨k0,hk⟩:=hk;cases v'<;>simp[eqV,fU]at e;rename_i k' a';cases hr;cases hr';by_cases hkk:k=k'
  .subst hkk;simp[l7,uo]at e;refine⟨by subst e;simp,_,hk,.inl ⟨by simp,?_⟩⟩;simp[Instr.sameNow,e]
  .simp[l7,hkk]at e
 .subst hv;rename_i s;cases v'<;>simp[eqV,fU]at e;rename_i s';cases hr;cases hr';rename_i bs bs';rw[um,GV]at e;have aza:∀x y:ByteArray,(x==y)=true<->x=y:=by
   intro x y;cases x;cases y;constructor
   .intro h;rename_i a b;have:(a==b)=true:=h;rw[beq_iff_eq]at this;rw[this]
   .intro h;cases h;rename_i a;show(a==a)=true;simp
  have hbs:(bs.data.toList==bs'.data.toList)=(bs==bs'):=by
   rw[oq,aza];simp only[beq_iff_eq];constructor
   .intro h;exact ByteArray.ext (Array.toList_inj.1 h)
   .intro h;rw[h]
  refine⟨by rw[<- e,hbs];rw[aza];simp,_,hk,.inl ⟨by simp,?_⟩⟩;simp[Instr.sameNow,<- e,hbs]
 .subst hv;rename_i i o;obtain⟨el,sz,hk,hz,hn⟩:=hk;simp only[eqV]at e;have h1:=akL hw hr hr' e;have h2:=Yv hk hz hn hw hr (Rs.dK (β:=β) hr') e;refine⟨h1,_,hk,.inr ⟨rfl,?_,?_⟩⟩
  .cases hr;cases v'<;>simp[jY]at e<;>cases hr'<;>rfl
  .have hp:∃a c,K=.pointer a/\K'=.pointer c:=by
    cases hr;cases v'<;>simp[jY]at e<;>cases hr'<;>exact⟨_,_,rfl,rfl⟩
   obtain⟨a,c,rfl,rfl⟩:=hp;exact Yw h2
def U2(g:G)(ents:List MapEntry)(i0:Nat)(K:Value):Option (Nat×V)->Option (Nat×Value)->Prop
 |none,r=>r=none
 |some (i,v),r=>∃e,i0<=i/\ents[i-i0]?=some e/\r=some (i,e.val)/\Rv g v e.val/\e.key=K
def akZ{kt:TypeId}{kc:Nat}{kind:TypeDesc}(hu:P.underlying kt=some kind)(hk:KeyTy P kt kc)(hk2:kc≠2)(hw:Rw P comp g σ w){v:V}{K:Value}(hr:Rs g β v K)(hv:iy kc v=true) :
  ∀(es:List (V×V)) (ents:List MapEntry) (i0:Nat) (r:Option (Nat×V)),es.length=ents.length->(∀(i:Nat) k x,es[i]?=some (k,x)->∃e,ents[i]?=some e/\Rv g k e.key/\Rv g x e.val) ->
   oN σ v es i0=some r->∃R,Instr.findNow kind K ents i0=some R/\U2 g ents i0 K r R:=by
 intro es
 induction es with
 |nil =>
  intro ents i0 r hl _ e;have:ents=[]:=by cases ents with|nil=>rfl|cons _ _=>simp at hl
  subst this;simp[oN]at e;subst e;exact⟨none,rfl,rfl⟩
 |cons p es ih =>
  obtain⟨k,x⟩:=p;intro ents i0 r hl he e;cases ents with
  |nil=>simp at hl
  |cons e0 ents =>
  obtain⟨e1,h1,h2,h3⟩:=he 0 k x rfl;simp at h1;subst h1;simp only[oN]at e;cases hq:eqV σ v k with
  |none=>rw[hq]at e;cases e
  |some b =>
  rw[hq]at e;obtain⟨hb,kind',hu',hcase⟩:=V7 hk hw hr hv h2 hq;rw[hu]at hu';cases hu';rcases hcase with⟨_,hs⟩|⟨h0,_⟩
  .cases b
   .simp only[cond_false]at e;obtain⟨R,hR,hf⟩:=ih ents (i0+1) r (by simpa using hl) (λi k x hx=>by simpa using he (i+1) k x (by simpa using hx)) e;refine⟨R,by simp only[Instr.findNow,hs];exact hR,?_⟩;cases r with
    |none=>exact hf
    |some q =>
     obtain⟨i,v'⟩:=q;obtain⟨e2,g1,g2,g3,g4⟩:=hf;refine⟨e2,by omega,?_,g3,g4⟩;have:i-i0=(i-(i0+1))+1:=by omega
     rw[this];simpa using g2
   .simp at e;subst e;exact⟨some (i0,e0.val),by simp only[Instr.findNow,hs],e0,aJ _,by simp,rfl,h3,(hb.1 rfl).symm⟩
  .exact absurd h0 hk2
def akY{kt:TypeId}(hk:KeyTy P kt 2)(hw:Rw P comp g σ w){v:V}{K:Value}(hr:Rs g β v K)(hv:iy 2 v=true) :
  ∀(es:List (V×V)) (ents:List MapEntry) (i0:Nat) (r:Option (Nat×V)),es.length=ents.length->(∀(i:Nat) k x,es[i]?=some (k,x)->∃e,ents[i]?=some e/\Rv g k e.key/\Rv g x e.val) ->
   oN σ v es i0=some r->∃R,(Instr.findAsking kt K ents i0).run P w=.ok R w/\U2 g ents i0 K r R:=by
 intro es
 induction es with
 |nil =>
  intro ents i0 r hl _ e;have:ents=[]:=by cases ents with|nil=>rfl|cons _ _=>simp at hl
  subst this;simp[oN]at e;subst e;exact⟨none,by simp[Instr.findAsking],rfl⟩
 |cons p es ih =>
  obtain⟨k,x⟩:=p;intro ents i0 r hl he e;cases ents with
  |nil=>simp at hl
  |cons e0 ents =>
  obtain⟨e1,h1,h2,h3⟩:=he 0 k x rfl;simp at h1;subst h1;simp only[oN]at e;cases hq:eqV σ v k with
  |none=>rw[hq]at e;cases e
  |some b =>
  rw[hq]at e;obtain⟨hb,kind',hu',hcase⟩:=V7 hk hw hr hv h2 hq;rcases hcase with⟨h0,_⟩|⟨_,_,hs⟩
  .exact absurd rfl h0
  .cases b
   .simp only[cond_false]at e;obtain⟨R,hR,hf⟩:=ih ents (i0+1) r (by simpa using hl) (λi k x hx=>by simpa using he (i+1) k x (by simpa using hx)) e;refine⟨R,by simp only[Instr.findAsking,aH,hs,Result.andThen];simpa using hR,?_⟩;cases r with
    |none=>exact hf
    |some q =>
     obtain⟨i,v'⟩:=q;obtain⟨e2,g1,g2,g3,g4⟩:=hf;refine⟨e2,by omega,?_,g3,g4⟩;have:i-i0=(i-(i0+1))+1:=by omega
     rw[this];simpa using g2
   .simp at e;subst e;exact⟨some (i0,e0.val),by simp[Instr.findAsking,aH,hs,Result.andThen],e0,aJ _,by simp,rfl,h3,(hb.1 rfl).symm⟩
def Ph{kt:TypeId}{kc:Nat}(hk:KeyTy P kt kc)(hw:Rw P comp g σ w){v:V}{K:Value}(hr:Rs g β v K)(hv:iy kc v=true)(es:List (V×V))(ents:List MapEntry)(r:Option (Nat×V))(hl:es.length=ents.length)
  (he:∀(i:Nat) k x,es[i]?=some (k,x)->∃e,ents[i]?=some e/\Rv g k e.key/\Rv g x e.val) (e:oN σ v es 0=some r):∃R,(Instr.findKey kt K ents).run P w=.ok R w/\U2 g ents 0 K r R:=by
 have hkind:∃kind,P.underlying kt=some kind:=by
  unfold KeyTy at hk
  split at hk
  .exact⟨_,hk.choose_spec⟩
  .exact⟨_,hk⟩
  .obtain⟨el,sz,hk,_⟩:=hk;exact⟨_,hk⟩
  .exact⟨_,hk⟩
  .exact hk.elim
 obtain⟨kind,hu⟩:=hkind;by_cases h2:kc=2
 .subst h2;cases es with
  |nil =>
   have:ents=[]:=by cases ents with|nil=>rfl|cons _ _=>simp at hl
   subst this;simp[oN]at e;subst e;exact⟨none,by simp[Instr.findKey,run_underlying hu,Instr.findNow,Result.andThen],rfl⟩
  |cons p es =>
   obtain⟨R,h3,h4⟩:=akY hk hw hr hv (p::es) ents 0 r hl he e;refine⟨R,?_,h4⟩;cases ents with
   |nil=>simp at hl
   |cons e0 ents =>
   obtain⟨k,x⟩:=p;obtain⟨e1,g1,g2,g3⟩:=he 0 k x rfl;simp at g1;subst g1;simp only[oN]at e;cases hq:eqV σ v k with
   |none=>rw[hq]at e;cases e
   |some b =>
   obtain⟨_,kind',hu',hcase⟩:=V7 hk hw hr hv g2 hq;rw[hu]at hu';cases hu';rcases hcase with⟨h0,_⟩|⟨_,hs,_⟩
   .exact absurd rfl h0
   .simp only[Instr.findKey,aH,run_underlying hu,Result.andThen,Instr.findNow,hs];exact h3
 .obtain⟨R,h3,h4⟩:=akZ hu hk h2 hw hr hv es ents 0 r hl he e;exact⟨R,by simp[Instr.findKey,aH,run_underlying hu,h3,Result.andThen],h4⟩
end
end Go.Vx
