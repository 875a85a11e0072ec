/- A part of the proof of TopForks. -/
import Derived.Laws.MakeOwn
import Derived.RangeFuncLeaves
import Derived.RangeFuncRecord
import Derived.Test.YteajegmpafjbgaaGreatDoorVab
set_option linter.all false
set_option maxRecDepth 1000000
set_option maxHeartbeats 80000000
noncomputable section
open Go Go.RowKit
namespace Go.Vx
section
variable {P:Program}{comp:FuncId->Code->aN}{g g':G}{σ σ':H}{w w':World}{β:Nat->Option Nat}{lo lo':Lo}{fr:List V}{A:Act}
def SX{t:TypeId}{z:V}(hz:nR P t=some z)(w:World)(g:G):∃Z,(zeroValue t).run P w=.ok Z w/\Rv g z Z:=by
 unfold nR at hz;cases hi:P.info? t with
 |none=>simp[hi]at hz
 |some i =>
  cases hzz:i.zero with
  |none=>simp[hi,hzz]at hz
  |some Z =>
   have hr:=Rv.cV 5 g Z;simp[hi,hzz]at hz;refine⟨Z,by simp[zeroValue,typeInfo,program,Sem.run,hi,hzz,Result.andThen],?_⟩
   split at hz
   .cases hz
   .simp at hz;rw[<- hz];exact hr
def Xq{d:Nat}{o:Oper}{t kt e:TypeId}{x k:Operand}{x' k':aC}{ok:Bool}{kc:Nat}{z:V}(hu:P.underlying t=some (.map kt e))(hk:X4 P kt=some kc)(hz:nR P e=some z)
  (hx:bQ x=some x') (hkk:bQ k=some k') (ho:o.op=.lookup t x k ok):Sound P comp d (.lookup kc z ok x' k') o:=by
 intro g β σ lo fr A w v lo' σ' h ee;have hrx:=Rs.ev h.f hx;have hrk:=Rs.ev h.f hkk;have hkt:=U9 hk;simp only[aK,mD]at ee;generalize hvx:x'.ev fr=vx at ee hrx;generalize hvk:k'.ev fr=vk at ee hrk;generalize hq:iy kc vk=q at ee;cases q
 .cases ee
 simp only[cond_true]at ee;cases hm:mapOf vx σ with
 |none=>rw[hm]at ee;cases ee
 |some es =>
 rw[hm]at ee;dsimp only at ee;cases hf:oN σ vk es 0 with
 |none=>rw[hf]at ee;cases ee
 |some r =>
 rw[hf]at ee;simp only[OR.ok.injEq]at ee;obtain⟨rfl,rfl,rfl⟩:=ee;obtain⟨Z,hZ,hZr⟩:=SX hz w g;generalize hX:A.eval x=X at hrx;generalize hK:A.eval k=K at hrk;have key:∀(ents:Array MapEntry),es.length=ents.toList.length->(∀(i:Nat) k x,es[i]?=some (k,x)->∃e,ents.toList[i]?=some e/\Rv g k e.key/\Rv g x e.val) ->
   ((X=.map none/\ents=#[])\/∃b clock,X=.map (some b)/\w.heap[b]?=some (.map ents clock))->pO P comp g β σ w (tZ z ok r) lo σ ((execOp A.eval o).run P w):=by
  intro ents hl he hrun;obtain⟨R,hR,hfa⟩:=Ph hkt h.w hrk hq es ents.toList r hl he hf;have hck:=run_checkKey (w:=w) hkt ents.isEmpty hrk hq;have hval:∃Y,(Instr.lookup t X K ok).run P w=.ok Y w/\Rv g (tZ z ok r) Y:=by
   cases r with
   |none =>
    have:R=none:=hfa;subst this;refine⟨if ok then .tuple #[Z,.bool false]else Z,?_,?_⟩
    .rcases hrun with⟨rfl,rfl⟩|⟨b,clock,rfl,hb⟩
     .simp at hck hR;simp[Instr.lookup,aH,run_underlying hu,hck,hR,hZ,Result.andThen]
     .simp[Instr.lookup,aH,run_underlying hu,MapKept.run_getObj_map hb,hck,hR,hZ,Result.andThen]
    cases ok
    .simpa[tZ]using hZr
    .simp only[tZ,cond_true,if_true];exact .mkTuple (.cons hZr (.cons (.bool false) (.nil g)))
   |some p =>
    obtain⟨i,y⟩:=p;obtain⟨e1,_,_,rfl,hy,_⟩:=hfa;refine⟨if ok then .tuple #[e1.val,.bool true]else e1.val,?_,?_⟩
    .rcases hrun with⟨rfl,rfl⟩|⟨b,clock,rfl,hb⟩
     .simp at hck hR;simp[Instr.lookup,aH,run_underlying hu,hck,hR,Result.andThen]
     .simp[Instr.lookup,aH,run_underlying hu,MapKept.run_getObj_map hb,hck,hR,Result.andThen]
    cases ok
    .simpa[tZ]using hy
    .simp only[tZ,cond_true,if_true];exact .mkTuple (.cons hy (.cons (.bool true) (.nil g)))
  obtain⟨Y,hlk,hYr⟩:=hval;refine .pure h (x:=Y) ?_ (.dK hYr);simp only[execOp,ho,hX,hK,aH,hlk,Result.andThen,Sem.run_pure]
 cases vx<;>simp[mapOf]at hm
 .subst hm;cases hrx;exact key #[] rfl (λi k x hx=>by simp at hx) (.inl ⟨rfl,rfl⟩)
 .obtain⟨b,n,ents,h1,h2,h3,h4,_⟩:=h.w.Qb hm;cases hrx with
  |map D8 =>
  obtain⟨rfl,rfl⟩:=Prod.mk.inj (gZ (h1.symm.trans D8));refine key ents (by simp[h3]) (λi k x hx=>let⟨e,a,b,c,_⟩:=h4 i k x hx;⟨e,by simpa using a,b,c⟩) (.inr ⟨_,_,rfl,h2⟩)
def aax:∀(es:List (V×V)) (i j:Nat) (v:V),(AQ es i v)[j]?=if i=j then(es[j]?).map λp=>(p.1,v)else es[j]?:=by
 intro es
 induction es with
 |nil=>intro i j v;simp[AQ]
 |cons p es ih =>
  intro i j v;obtain⟨k,x⟩:=p;cases i with
  |zero=>cases j<;>simp[AQ]
  |succ i =>
   cases j with
   |zero=>simp[AQ]
   |succ j=>simp[AQ,ih]
def MH:∀(es:List (V×V)) (i:Nat) (v:V),(AQ es i v).length=es.length:=by
 intro es
 induction es with
 |nil=>intro i v;rfl
 |cons p es ih=>intro i v;cases i<;>simp[AQ,ih]
def GZ{v:V}{kc:Nat}{K:Value}(hr:Rs g β v K)(hq:iy kc v=true)(n:Nat):Instr.sameBits n K K=true:=by
 cases v<;>simp[iy]at hq
 .cases hr;cases n<;>simp[Instr.sameBits]
 .cases hr;cases n<;>simp[Instr.sameBits]
 .cases hr;rename_i bs;have:(bs==bs)=true:=by
   cases bs;rename_i a;show(a==a)=true;simp
  cases n<;>simpa[Instr.sameBits]using this
 .cases hr;cases n<;>simp[Instr.sameBits]
def Jw{d:Nat}{o:Oper}{t kt e:TypeId}{m k x:Operand}{m' k' x':aC}{kc:Nat}(hu:P.underlying t=some (.map kt e))(hk:X4 P kt=some kc)
  (hm:bQ m=some m') (hkk:bQ k=some k') (hx:bQ x=some x') (ho:o.op=.mapUpdate t m k x\/o.op=.insert t m k x):Sound P comp d (.vI kc m' k' x') o:=by
 intro g β σ lo fr A w v lo' σ' h ee;have hrx:=Rs.ev h.f hx;have hrk:=Rs.ev h.f hkk;have hrm:=Rs.ev h.f hm;have hkt:=U9 hk;simp only[aK,oH]at ee;generalize hvx:x'.ev fr=vx at ee hrx;generalize hvk:k'.ev fr=vk at ee hrk;generalize hvm:m'.ev fr=vm at ee hrm;generalize hq:iy kc vk=q at ee;cases q
 .cases ee
 generalize hq2:bK vx=q2 at ee;cases q2 with
 |true=>cases ee
 |false =>
 simp only[Bool.not_false,aU,cond_true]at ee;have aqK:Rv g vx (A.eval x):=hrx.rv (by intro t o e;subst e;simp[bK]at hq2);have av4:Rv g vk (A.eval k):=hrk.rv (by intro t o e;subst e;simp[iy]at hq);cases vm<;>try (cases ee;done)
 rename_i id;dsimp only at ee;cases hg:gK σ id with
 |none=>rw[hg]at ee;cases ee
 |some es =>
 rw[hg]at ee;dsimp only at ee;cases hf:oN σ vk es 0 with
 |none=>rw[hf]at ee;cases ee
 |some r =>
 rw[hf]at ee;dsimp only at ee;obtain⟨b,n,ents,h1,h2,h3,h4,h5⟩:=h.w.Qb hg;have hM:A.eval m=.map (some b):=by
  generalize hz:A.eval m=M at hrm;cases hrm with
  |map D8=>rw[h1]at D8;cases D8;rfl
 have hlive:Live g σ b:=⟨id,n,by simp[lI hg],h1⟩;obtain⟨R,hR,hfa⟩:=Ph hkt h.w hrk hq es ents.toList r (by simp[h3]) (λi k x hx=>let⟨e,a,b,c,_⟩:=h4 i k x hx;⟨e,by simpa using a,b,c⟩) hf;have hck:=run_checkKey (w:=w) hkt false hrk hq;have hoth:∀(ob:Go.Obj) (k:Nat),k≠b->({ w with heap:=w.heap.setIfInBounds b ob }:World).heap[k]?=w.heap[k]?:=λob k hk=>by
  simp[Ne.symm hk]
 have hsame:∀(ob:Go.Obj),({ w with heap:=w.heap.setIfInBounds b ob }:World).heap[b]?=some ob:=λob=>by
  have:b<w.heap.size:=(eY.1 h2).1;simp[this]
 have hlv:∀ob b',Live g (σ.set id ob) b'->Live g σ b':=by
  rintro ob b' ⟨i,m',hi,hb'⟩
  rw[H.qG]at hi;by_cases e1:id=i
  .subst e1;exact⟨id,m',by simp[lI hg],hb'⟩
  .simp[e1]at hi;exact⟨i,m',hi,hb'⟩
 have fin:∀(Bl:Array MapEntry) (es':List (V×V)),(Instr.mapUpdate t (A.eval m) (A.eval k) (A.eval x)).run P w=.ok () { w with heap:=w.heap.setIfInBounds b (.map Bl Bl.size) }->Bl.size=es'.length ->
   (∀(i:Nat) k x,es'[i]?=some (k,x)->∃e,Bl[i]?=some e/\Rv g k e.key/\Rv g x e.val/\e.born=i)->pO P comp g β σ w .undef lo (σ.set id (.map es')) ((execOp A.eval o).run P w):=by
  intro Bl es' hrun hl he;refine⟨undef,_,g,.inr ⟨?_,rfl⟩,.refl g,.dK (.undef _),h.w.put (by simp[lI hg]) h1 (by simp) (hoth _) ⟨Bl,hsame _,hl,he⟩,
   h.b.same (.refl g) (λb' hl _=>hlv _ b' hl) (λ_ _ hp _ o=>hp o) (λt b' e'=>hoth _ b' (by intro e'';subst e'';exact(h.b.apart t b' e').1 hlive)),
   ⟨rfl,rfl,rfl,by simp,λk _ hk _ _=>hoth _ k (by intro e';subst e';exact hk hlive)⟩,λb' hl _=>hlv _ b' hl,λ_ _ h _=>h⟩
  rcases ho with ho|ho<;>simp only[execOp,ho,aH,hrun,Result.andThen,Sem.run_pure]
 cases r with
 |none =>
  have:R=none:=hfa;subst this;simp only[La,OR.ok.injEq]at ee;obtain⟨rfl,rfl,rfl⟩:=ee;refine fin (ents.push { key:=A.eval k,val:=A.eval x,born:=ents.size }) _ ?_ (by simp[h3]) (λi k0 x0 hx0=>?_)
  .simp[Instr.mapUpdate,aH,run_underlying hu,hM,MapKept.run_getObj_map h2,hck,hR,MapKept.run_setObj_map _ h2,Result.andThen]
  .rw[yR]at hx0;rw[Array.getElem?_push];by_cases hi:i<es.length
   .rw[if_pos hi]at hx0;rw[if_neg (by omega)];exact h4 i k0 x0 hx0
   .rw[if_neg hi]at hx0;have hi0:i-es.length=0:=by
     cases hq3:i-es.length with
     |zero=>rfl
     |succ q=>rw[hq3]at hx0;simp at hx0
    rw[hi0]at hx0;simp at hx0;obtain⟨rfl,rfl⟩:=hx0;have:i=ents.size:=by omega
    rw[if_pos this];exact⟨_,rfl,av4,aqK,this.symm⟩
 |some p =>
  obtain⟨i,y⟩:=p;obtain⟨e1,_,he1,rfl,hy,hkey⟩:=hfa;simp only[La,OR.ok.injEq]at ee;obtain⟨rfl,rfl,rfl⟩:=ee;simp only[Nat.sub_zero]at he1;have he1':ents[i]?=some e1:=by simpa using he1
  have hi:i<ents.size:=(eY.1 he1').1;have alv:(Instr.keyThatStays e1.key (A.eval k)).run P w=.ok (A.eval k) w:=by
   unfold Instr.keyThatStays;rw[hkey,GZ hrk hq];simp
  refine fin (ents.modify i λe=>{ e with key:=A.eval k,val:=A.eval x }) _ ?_ (by simp[MH,h3]) (λj k0 x0 hx0=>?_)
  .simp[Instr.mapUpdate,aH,run_underlying hu,hM,MapKept.run_getObj_map h2,hck,hR,he1',alv,MapKept.run_setObj_map _ h2,Result.andThen]
  .rw[aax]at hx0;rw[Array.getElem?_modify];by_cases hij:i=j
   .subst hij;rw[if_pos rfl]at hx0;cases hes:es[i]? with
    |none=>rw[hes]at hx0;simp at hx0
    |some q =>
     obtain⟨k1,x1⟩:=q;rw[hes]at hx0;simp at hx0;obtain⟨rfl,rfl⟩:=hx0;obtain⟨e2,g1,g2,g3,g4⟩:=h4 i k1 x1 hes;rw[he1']at g1;cases g1;refine⟨{ e1 with key:=A.eval k,val:=A.eval x },by simp[he1'],?_,aqK,g4⟩;rw[hkey]at g2;exact g2
   .rw[if_neg hij]at hx0;rw[if_neg hij];exact h4 j k0 x0 hx0
def Xr{d:Nat}{o:Oper}{t kt e:TypeId}{m k:Operand}{m' k':aC}{kc:Nat}{z:V}(hu:P.underlying t=some (.map kt e))(hk:X4 P kt=some kc)(hz:nR P e=some z)
  (hm:bQ m=some m') (hkk:bQ k=some k') (ho:o.op=.mapEntry t m k):Sound P comp d (.wY kc z m' k') o:=by
 intro g β σ lo fr A w v lo' σ' h ee;have hrk:=Rs.ev h.f hkk;have hrm:=Rs.ev h.f hm;have hkt:=U9 hk;simp only[aK,zI]at ee;generalize hvk:k'.ev fr=vk at ee hrk;generalize hvm:m'.ev fr=vm at ee hrm;generalize hq:iy kc vk=q at ee;cases q
 .cases ee
 simp only[cond_true]at ee;have av4:Rv g vk (A.eval k):=hrk.rv (by intro t o e;subst e;simp[iy]at hq);cases vm<;>try (cases ee;done)
 rename_i id;dsimp only at ee;cases hg:gK σ id with
 |none=>rw[hg]at ee;cases ee
 |some es =>
 rw[hg]at ee;dsimp only at ee;cases hf:oN σ vk es 0 with
 |none=>rw[hf]at ee;cases ee
 |some r =>
 rw[hf]at ee;dsimp only at ee;obtain⟨b,n,ents,h1,h2,h3,h4,h5⟩:=h.w.Qb hg;have hM:A.eval m=.map (some b):=by
  generalize hz:A.eval m=M at hrm;cases hrm with
  |map D8=>rw[h1]at D8;cases D8;rfl
 have hlive:Live g σ b:=⟨id,n,by simp[lI hg],h1⟩;obtain⟨R,hR,hfa⟩:=Ph hkt h.w hrk hq es ents.toList r (by simp[h3]) (λi k x hx=>let⟨e,a,b,c,_⟩:=h4 i k x hx;⟨e,by simpa using a,b,c⟩) hf;have hck:=run_checkKey (w:=w) hkt false hrk hq;have hoth:∀(ob:Go.Obj) (k:Nat),k≠b->({ w with heap:=w.heap.setIfInBounds b ob }:World).heap[k]?=w.heap[k]?:=λob k hk=>by
  simp[Ne.symm hk]
 have hsame:∀(ob:Go.Obj),({ w with heap:=w.heap.setIfInBounds b ob }:World).heap[b]?=some ob:=λob=>by
  have:b<w.heap.size:=(eY.1 h2).1;simp[this]
 have hlv:∀ob b',Live g (σ.set id ob) b'->Live g σ b':=by
  rintro ob b' ⟨i,m',hi,hb'⟩
  rw[H.qG]at hi;by_cases e1:id=i
  .subst e1;exact⟨id,m',by simp[lI hg],hb'⟩
  .simp[e1]at hi;exact⟨i,m',hi,hb'⟩
 have fin:∀(Bl:Array MapEntry) (es':List (V×V)) (y:V) (Y:Value),(Instr.mapEntry t (A.eval m) (A.eval k)).run P w=.ok Y { w with heap:=w.heap.setIfInBounds b (.map Bl Bl.size) }->Rv g y Y->Bl.size=es'.length ->
   (∀(i:Nat) k x,es'[i]?=some (k,x)->∃e,Bl[i]?=some e/\Rv g k e.key/\Rv g x e.val/\e.born=i)->pO P comp g β σ w y lo (σ.set id (.map es')) ((execOp A.eval o).run P w):=by
  intro Bl es' y Y hrun hy hl he;refine⟨Y,_,g,.inl ?_,.refl g,.dK hy,h.w.put (by simp[lI hg]) h1 (by simp) (hoth _) ⟨Bl,hsame _,hl,he⟩,
   h.b.same (.refl g) (λb' hl _=>hlv _ b' hl) (λ_ _ hp _ o=>hp o) (λt b' e'=>hoth _ b' (by intro e'';subst e'';exact(h.b.apart t b' e').1 hlive)),
   ⟨rfl,rfl,rfl,by simp,λk _ hk _ _=>hoth _ k (by intro e';subst e';exact hk hlive)⟩,λb' hl _=>hlv _ b' hl,λ_ _ h _=>h⟩
  simp only[execOp,ho,aH,hrun,Result.andThen,Sem.run_pure]
 cases r with
 |none =>
  have:R=none:=hfa;subst this;obtain⟨Z,hZ,hZr⟩:=SX hz w g;simp only[Hu,OR.ok.injEq]at ee;obtain⟨rfl,rfl,rfl⟩:=ee;refine fin (ents.push { key:=A.eval k,val:=Z,born:=ents.size }) _ _ (.tuple #[Z,goInt ents.size]) ?_ (.mkTuple (.cons hZr (.cons (by rw[<- h3];exact .int _ _) (.nil g)))) (by simp[h3]) (λi k0 x0 hx0=>?_)
  .simp[Instr.mapEntry,aH,run_underlying hu,hM,MapKept.run_getObj_map h2,hck,hR,hZ,MapKept.run_setObj_map _ h2,Result.andThen]
  .rw[yR]at hx0;rw[Array.getElem?_push];by_cases hi:i<es.length
   .rw[if_pos hi]at hx0;rw[if_neg (by omega)];exact h4 i k0 x0 hx0
   .rw[if_neg hi]at hx0;have hi0:i-es.length=0:=by
     cases hq3:i-es.length with
     |zero=>rfl
     |succ q=>rw[hq3]at hx0;simp at hx0
    rw[hi0]at hx0;simp at hx0;obtain⟨rfl,rfl⟩:=hx0;have:i=ents.size:=by omega
    rw[if_pos this];exact⟨_,rfl,av4,hZr,this.symm⟩
 |some p =>
  obtain⟨i,y⟩:=p;obtain⟨e1,_,he1,rfl,hy,hkey⟩:=hfa;simp only[Hu,OR.ok.injEq]at ee;obtain⟨rfl,rfl,rfl⟩:=ee;simp only[Nat.sub_zero]at he1;have he1':ents[i]?=some e1:=by simpa using he1
  have hi:i<ents.size:=(eY.1 he1').1;have alv:(Instr.keyThatStays e1.key (A.eval k)).run P w=.ok (A.eval k) w:=by
   unfold Instr.keyThatStays;rw[hkey,GZ hrk hq];simp
  obtain⟨⟨k1,x1⟩,hes⟩:∃q,es[i]?=some q:=⟨_,bV (by omega)⟩;have hborn:e1.born=i:=by
   obtain⟨e2,g1,_,_,g4⟩:=h4 i k1 x1 hes;rw[he1']at g1;cases g1;exact g4
  refine fin (ents.modify i λe=>{ e with key:=A.eval k }) _ _ (.tuple #[e1.val,goInt i]) ?_ (.mkTuple (.cons hy (.cons (.int _ _) (.nil g)))) (by simp[h3]) (λj k0 x0 hx0=>?_)
  .simp[Instr.mapEntry,aH,run_underlying hu,hM,MapKept.run_getObj_map h2,hck,hR,he1',alv,hborn,MapKept.run_setObj_map _ h2,Result.andThen]
  .rw[Array.getElem?_modify];obtain⟨e2,g1,g2,g3,g4⟩:=h4 j k0 x0 hx0;by_cases hij:i=j
   .subst hij;rw[he1']at g1;cases g1;refine⟨{ e1 with key:=A.eval k },by simp[he1'],?_,g3,g4⟩;rw[hkey]at g2;exact g2
   .rw[if_neg hij];exact⟨e2,g1,g2,g3,g4⟩
def QV{d:Nat}{o:Oper}{t:TypeId}{m s x:Operand}{m' s' x':aC}(hm:bQ m=some m')(hs:bQ s=some s')(hx:bQ x=some x')(ho:o.op=.entryStore t m s x):Sound P comp d (.oz m' s' x') o:=by
 intro g β σ lo fr A w v lo' σ' h ee;have hrx:=Rs.ev h.f hx;have hrs:=Rs.ev h.f hs;have hrm:=Rs.ev h.f hm;simp only[aK,uG]at ee;generalize hvx:x'.ev fr=vx at ee hrx;generalize hvs:s'.ev fr=vs at ee hrs;generalize hvm:m'.ev fr=vm at ee hrm;have key:∀id k i es,vm=.map id->vs=.int k (.ofNat i)->gK σ id=some es->i<es.length->(∀t o,vx≠.aY t o)->pO P comp g β σ w .undef lo (σ.set id (.map (AQ es i vx))) ((execOp A.eval o).run P w):=by
  intro id kk i es aCK hvs' hg hi hnl;subst aCK;subst hvs';have aqK:Rv g vx (A.eval x):=hrx.rv hnl;obtain⟨b,n,ents,h1,h2,h3,h4,h5⟩:=h.w.Qb hg;have hM:A.eval m=.map (some b):=by
   generalize hz:A.eval m=M at hrm;cases hrm with
   |map D8=>rw[h1]at D8;cases D8;rfl
  have hS:=jL hrs rfl;have hlive:Live g σ b:=⟨id,n,by simp[lI hg],h1⟩;have hoth:∀(ob:Go.Obj) (k:Nat),k≠b->({ w with heap:=w.heap.setIfInBounds b ob }:World).heap[k]?=w.heap[k]?:=λob k hk=>by
   simp[Ne.symm hk]
  have hsame:∀(ob:Go.Obj),({ w with heap:=w.heap.setIfInBounds b ob }:World).heap[b]?=some ob:=λob=>by
   have:b<w.heap.size:=(eY.1 h2).1;simp[this]
  have hlv:∀ob b',Live g (σ.set id ob) b'->Live g σ b':=by
   rintro ob b' ⟨i,m',hi,hb'⟩
   rw[H.qG]at hi;by_cases e1:id=i
   .subst e1;exact⟨id,m',by simp[lI hg],hb'⟩
   .simp[e1]at hi;exact⟨i,m',hi,hb'⟩
  have hfind:ents.findIdx? (λe=>(e.born:Int)==(i:Int))=some i:=by
   have hb:∀j (hj:j<ents.size),(ents[j]).born=j:=λj hj=>by
    obtain⟨e2,g1,_,_,g4⟩:=h4 j es[j].1 es[j].2 (bV (by omega));rw[rH hj]at g1;cases g1;exact g4
   rw[Array.findIdx?_eq_some_iff_getElem];refine⟨by omega,by simp[hb i (by omega)],λj hj=>?_⟩;have:=hb j (by omega);simp[this];omega
  refine⟨undef,_,g,.inr ⟨?_,rfl⟩,.refl g,.dK (.undef _),h.w.put (w':={ w with heap:=w.heap.setIfInBounds b (.map (ents.modify i λe=>{ e with val:=A.eval x }) ents.size) }) (by simp[lI hg]) h1 (by simp) (hoth _) ⟨ents.modify i λe=>{ e with val:=A.eval x },by simp[hsame],by simp[MH,h3],λj k0 x0 hx0=>?_⟩,
   h.b.same (.refl g) (λb' hl _=>hlv _ b' hl) (λ_ _ hp _ o=>hp o) (λt b' e'=>hoth _ b' (by intro e'';subst e'';exact(h.b.apart t b' e').1 hlive)),
   ⟨rfl,rfl,rfl,by simp,λk _ hk _ _=>hoth _ k (by intro e';subst e';exact hk hlive)⟩,λb' hl _=>hlv _ b' hl,λ_ _ h _=>h⟩
  .have hrun:(Instr.entryStore t (A.eval m) (A.eval s) (A.eval x)).run P w=.ok () { w with heap:=w.heap.setIfInBounds b (.map (ents.modify i λe=>{ e with val:=A.eval x }) ents.size) }:=by
    simp[Instr.entryStore,aH,hM,hS,MapKept.run_getObj_map h2,asInt,asIntOf,hfind,MapKept.run_setObj_map _ h2,Result.andThen]
   simp only[execOp,ho,aH,hrun,Result.andThen,Sem.run_pure]
  .rw[aax]at hx0;rw[Array.getElem?_modify];by_cases hij:i=j
   .subst hij;rw[if_pos rfl]at hx0;cases hes:es[i]? with
    |none=>rw[hes]at hx0;simp at hx0
    |some q =>
     obtain⟨k1,x1⟩:=q;rw[hes]at hx0;simp at hx0;obtain⟨rfl,rfl⟩:=hx0;obtain⟨e2,g1,g2,g3,g4⟩:=h4 i k1 x1 hes;exact⟨{ e2 with val:=A.eval x },by simp[g1],g2,aqK,g4⟩
   .rw[if_neg hij]at hx0;rw[if_neg hij];exact h4 j k0 x0 hx0
 have done:∀vx,(∀t o,vx≠.aY t o)->(match vm with
   |.map id=>(match vs with
    |.int _ (.ofNat i)=>(match gK σ id with
     |some es=>bif Nat.blt i es.length then OR.ok .undef lo (σ.set id (.map (AQ es i vx)))else .fail
     |none=>.fail)
    |_=>.fail)
   |_=>.fail)=.ok v lo' σ'->∃id k i es,vm=.map id/\vs=.int k (.ofNat i)/\gK σ id=some es/\i<es.length/\v=.undef/\lo'=lo/\σ'=σ.set id (.map (AQ es i vx)):=by
  intro vx hn e;cases vm<;>try (cases e;done)
  rename_i id;cases vs<;>try (cases e;done)
  rename_i k n;cases n with
  |negSucc n=>cases e
  |ofNat i =>
   dsimp only at e;cases hg:gK σ id with
   |none=>rw[hg]at e;cases e
   |some es =>
    rw[hg]at e;dsimp only at e;cases hb:Nat.blt i es.length with
    |false=>rw[hb]at e;cases e
    |true =>
     rw[hb]at e;simp only[cond_true,OR.ok.injEq]at e;exact⟨id,k,i,es,rfl,rfl,hg,by simpa[Nat.blt,Nat.succ_le_iff]using hb,e.1.symm,e.2.1.symm,e.2.2.symm⟩
 have hnl:∀t o,vx≠.aY t o:=by rintro t o rfl;cases ee
 have hnu:vx≠.undef:=by rintro rfl;cases ee
 have ee2:=done vx hnl (by cases vx<;>first|exact ee|exact absurd rfl hnu|exact absurd rfl (hnl _ _))
 obtain⟨id,k,i,es,e1,e2,e3,e4,rfl,rfl,rfl⟩:=ee2;exact key id k i es e1 e2 e3 e4 hnl
end
section
variable {P:Program}{comp:FuncId->Code->aN}{g g':G}{σ σ':H}{w w':World}{β:Nat->Option Nat}{lo lo':Lo}{fr:List V}{A:Act}
def aaL{d:Nat}{o:Oper}{x:Operand}{x':aC}{s t:TypeId}(hs:P.underlying s=some .string)(ht:P.underlying t=some .string)(hx:bQ x=some x')(ho:o.op=.convert s t x):Sound P comp d (.zN x') o:=by
 intro g β σ lo fr A w v lo' σ' h e;have hr:=Rs.ev h.f hx;simp only[aK,sF]at e
 split at e
 .rename_i q hq;simp only[OR.ok.injEq]at e;obtain⟨rfl,rfl,rfl⟩:=e;obtain⟨bs,hb,hs'⟩:=yu hr hq;refine .pure h (x:=.string bs) ?_ (by rw[hs'];exact .dK (.str _));simp only[execOp,ho,hb,convert];simp[run_underlying hs,run_underlying ht,Result.andThen]
 .cases e
def G5{d:Nat}{o:Oper}{t el:TypeId}{l c:Operand}{l' c':aC}{s:Nat}{z:V}(hu:P.underlying t=some (.slice el))(hs:RI P el=some s)(hz:nR P el=some z)(hl:bQ l=some l')(hc:bQ c=some c')(ho:o.op=.makeSlice t l c) :
  Sound P comp d (.mkSlice z.cells l' c') o:=by
 intro g β σ lo fr A w v lo' σ' h e;obtain⟨it,Z,k1,k2,k3,k4,k5,z',k6,k7⟩:=FK hs;rw[hz]at k6;cases k6;obtain⟨it',Z',q1,q2,q3⟩:=mX (g:=g) hz;rw[k1]at q1;cases q1;rw[k2]at q2;cases q2;have hZ:Z.cells.size=s:=by have:=q3.1;simp at this;omega
 have hrl:=Rs.ev h.f hl;have hrc:=Rs.ev h.f hc;simp only[aK,iC]at e
 split at e<;>try cases e
 rename_i k n hln
 split at e<;>try cases e
 rename_i k2' m hcm;generalize hq:(Nat.ble n m&&Nat.ble m 16777216)=q at e;cases q
 .cases e
 simp only[cond_true,OR.ok.injEq]at e;obtain⟨rfl,rfl,rfl⟩:=e;simp only[ah,jg]at hq;obtain⟨hnm,hm⟩:=hq;have e1:=jL hrl hln;have e2:=jL hrc hcm;have hb:(it.bytes:Int)*((m:Nat):Int)<=281474976710656:=by
  have:it.bytes*m<=65536*16777216:=Nat.mul_le_mul k5 hm;have h':((it.bytes*m:Nat):Int)<=281474976710656:=by omega
  rwa[Int.natCast_mul]at h'
 have hrow:=Xe (g:=g.bind σ.next (w.heap.size,m*Z.cells.size)) (q3.mono (G.yJ _ (h.w.fresh _ (aJ _)).1)) m;have hzl:z.cells.length=Z.cells.size:=by have:=q3.1;simpa using this
 refine pO.new h (gob:=.cells ((Array.range (m*Z.cells.size)).map (Z.cells[·%Z.cells.size]!)) el (0,0)) (n:=m*Z.cells.size) (w':=w.alloc (.cells ((Array.range (m*Z.cells.size)).map (Z.cells[·%Z.cells.size]!)) el (0,0)))
  (x:=.slice (some ⟨w.heap.size,0,none⟩) n m) ⟨rfl,rfl,rfl,rfl⟩ ?_ ?_ (.hsl (G.rV _ _ _) hnm (λc hc=>by cases hc;rfl) (by rw[hzl,iF];exact aJ _))
 .have hrun:=run_make (P:=P) w t el it Z hu k1 k2 k k2' (n:Int) (m:Int) (Int.natCast_nonneg n) (by omega) hb (by omega);simp only[Int.toNat_natCast]at hrun;rw[k3,<- hZ]at hrun;have e1':A.eval l=.int k (n:Int):=e1;have e2':A.eval c=.int k2' (m:Int):=e2;simp only[execOp,ho,e1',e2',aH,hrun,Result.andThen,Sem.run_pure];rfl
 .have:=Cj (P:=P) (comp:=comp) (w:=w) (w':=w.alloc (.cells ((Array.range (m*Z.cells.size)).map (Z.cells[·%Z.cells.size]!)) el (0,0))) (e:=el) rfl hrow;simpa using this
def Mc:∀{a b:List V},bf a=true->bf b=true->bf (a++b)=true
 |[],_,_,hb=>hb
 |_::_,_,ha,hb=>by
  simp[bf]at ha|-;exact⟨ha.1,Mc ha.2 hb⟩
def Z7{z:List V}(h:bf z=true):∀n,bf (rep z n)=true
 |0=>rfl
 |n+1=>Mc h (Z7 h n)
def aaB{d:Nat}{o:Oper}{x:Operand}{x':aC}{ats:Array TypeId}{t el:TypeId}{s:Nat}{z:V}(ht:ats[0]?=some t)(hu:P.underlying t=some (.slice el))(hs:RI P el=some s)(hz:nR P el=some z)(hx:bQ x=some x')
  (ho:o.op=.call { callee:=.builtin .clear,args:=#[x],argTypes:=ats }):Sound P comp d (.clear z.cells x') o:=by
 intro g β σ lo fr A w v lo' σ' h e;obtain⟨it,Z,k1,k2,k3,k4,k5,z',k6,k7⟩:=FK hs;rw[hz]at k6;cases k6;obtain⟨it',Z',q1,q2,q3⟩:=mX (g:=g) hz;rw[k1]at q1;cases q1;rw[k2]at q2;cases q2;have hzero:∀w,(zeroValue el).run P w=.ok Z w:=λw=>by simp[zeroValue,typeInfo,program,Sem.run,k1,k2,Result.andThen]
 have hr:=Rs.ev h.f hx;have hex:∀(r:Result Value),(Builtin.clear_ ats o.type #[A.eval x]).run P w=r->(execOp A.eval o).run P w=r.andThen λv w=>.ok (.value v) w:=by
  intro r hr;simp only[execOp,ho,resolve,invoke,builtin,aH,Sem.run_pure,Result.andThen];simp[hr]
 simp only[aK,vM]at e;generalize hv:x'.ev fr=vx at e hr;generalize hX:A.eval x=X at hr hex;have idle:∀(r:Result Next),r=.ok (.value (.tuple #[])) w->pO P comp g β σ w .undef lo σ r:=λr hr=>.pure h hr (.dK (.undef _));cases vx<;>try (cases e;done)
 .simp only[OR.ok.injEq]at e;obtain⟨rfl,rfl,rfl⟩:=e;cases hr;refine idle _ ?_;rw[hex (.ok (.tuple #[]) w)]
  .rfl
  .simp[Builtin.clear_,ht,run_underlying hu,Result.andThen]
 .rename_i xs ex;cases xs with
  |cons a b=>cases e
  |nil =>
   simp only[OR.ok.injEq]at e;obtain⟨rfl,rfl,rfl⟩:=e;cases hr;refine idle _ ?_;rw[hex (.ok (.tuple #[]) w)]
   .rfl
   .simp[Builtin.clear_,ht,run_underlying hu,Result.andThen]
 .rename_i id off len cap sz;dsimp only at e;generalize hq:bf z.cells=q at e;cases q
  .cases e
  simp only[cond_true]at e;cases hg:getCells σ id with
  |none=>rw[hg]at e;cases e
  |some cs =>
  rw[hg]at e;dsimp only at e;cases hsp:splice off cs (rep z.cells len)with
  |none=>rw[hsp]at e;cases e
  |some r =>
  rw[hsp]at e;simp only[OR.ok.injEq]at e;obtain⟨rfl,rfl,rfl⟩:=e;cases hr with
  |@hsl _ b m _ _ _ c' _ hρ hlc hcap hmn =>
  have hrep:=Xe (g:=g) q3 len;have hok:=Z7 hq len;obtain⟨w',s1,s2,s3⟩:=h.write hg hρ hrep hok hsp;have hzl:z.cells.length=Z.cells.size:=by have:=q3.1;simpa using this
  refine s2 _ (.tuple #[]) (.dK (.undef _)) _ ?_;rw[hex (.ok (.tuple #[]) w')]
  .rfl
  .cases len with
   |zero =>
    have hw:w'=w:=by
     have:(storeCells ⟨b,off,none⟩ ((Array.range (0*Z.cells.size)).map (Z.cells[·%Z.cells.size]!)).toList).run P w=.ok () w:=by simp[storeCells]
     rw[this]at s1;cases s1;rfl
    subst hw;simp[Builtin.clear_,ht,run_underlying hu,Result.andThen]
   |succ n =>
    have hzc:Builtin.zeroCells Z.cells (n+1)=(Array.range ((n+1)*Z.cells.size)).map (Z.cells[·%Z.cells.size]!):=rfl;simp only[Builtin.clear_,List.getElem?_toArray,List.getElem?_cons_zero,ht,aH,run_underlying hu,Result.andThen,hzero,hzc,s1,Sem.run_pure]
def Sm{d:Nat}{o:Oper}{x y:Operand}{x' y':aC}{ats:Array TypeId}{t u e:TypeId}{k:IntKind}{s:Nat}{z:V}(h0:ats[0]?=some t)(h1:ats[1]?=some u)(ht:P.underlying t=some (.slice e))(hu:P.underlying u=some (.int k))
  (hs:RI P e=some s) (hz:nR P e=some z) (hx:bQ x=some x') (hy:bQ y=some y') (ho:o.op=.call { callee:=.builtin .append,args:=#[x,y],argTypes:=ats }):Sound P comp d (.qE z.cells x' y') o:=by
 intro g β σ lo fr A w v lo' σ' h e1;obtain⟨it,Z,k1,k2,k3,k4,k5,z',k6,k7⟩:=FK hs;rw[hz]at k6;cases k6;obtain⟨it',Z',q1,q2,q3⟩:=mX (g:=g) hz;rw[k1]at q1;cases q1;rw[k2]at q2;cases q2;have hZ:Z.cells.size=s:=by have:=q3.1;simp at this;omega
 have hrx:=Rs.ev h.f hx;have hry:=Rs.ev h.f hy;simp only[aK,lT]at e1
 split at e1<;>try cases e1
 rename_i k' n hyn;generalize hq:(eqK k' .i64&&Nat.ble n 16777216&&Nat.blt 0 n)=q at e1;cases q
 .cases e1
 simp only[cond_true]at e1
 split at e1<;>try cases e1
 rename_i hxn;rw[hxn]at hrx;generalize hX:A.eval x=X at hrx;cases hrx;have e2:=jL hry hyn;simp only[ah,jg,l7,decide_eq_true_eq]at hq;obtain⟨⟨hk,hm⟩,hpos⟩:=hq;have hpos:=vg hpos;subst hk;have w1:IntKind.i64.wrap (Int.ofNat n)=(n:Int):=wrap_i64 (by simp only[lJ];omega) (by simp only[lJ];omega);have c1:¬((n:Int)<0):=by omega
 have c2:¬(281474976710656<(n:Int)*(it.bytes:Int)):=by
  have:n*it.bytes<=16777216*65536:=Nat.mul_le_mul hm k5;have h':((n*it.bytes:Nat):Int)<=281474976710656:=by omega
  rw[Int.natCast_mul]at h';omega
 have hn0:¬(n=0):=by omega
 have c3:¬(n*it.size=0):=by rw[k3];intro hc;rcases Nat.mul_eq_zero.1 hc with h|h;exact hn0 h;exact k4 h
 have c4:¬(9223372036854775807<(n:Int)):=by omega
 have h48:=Qp (need:=n) (c:=0) hpos;have h48':¬(281474976710656<Builtin.nextslicecap n 0*it.bytes):=by
  have:Builtin.nextslicecap n 0*it.bytes<=33555432*65536:=Nat.mul_le_mul (by omega) k5;omega
 have hrun:(Builtin.append_ ats o.type #[.slice none 0 0,.int .i64 (Int.ofNat n)]).run P w=.ok (.slice (some ⟨w.heap.size,0,none⟩) n (grownCap w n 0 e)) (w.drew.alloc (.cells (#[]++Builtin.zeroCells Z.cells n++Builtin.zeroCells Z.cells (grownCap w n 0 e-n)) e)):=by
  have c5:¬(n<=0):=by omega
  have w1':IntKind.i64.wrap ((n:Nat):Int)=(n:Int):=w1;simp[Builtin.append_,h0,h1,run_underlying ht,run_underlying hu,sizeOf,typeInfo,zeroValue,k1,k2,asInt,asIntOf,w1',c1,c2,c3,c4,hn0,h48',Question.forced,newRow,grownCap,Builtin.firstCells,Result.andThen]
 have hrep:=Xe (g:=g) q3 n;refine pO.grown (n:=n) (cap:=grownCap w n 0 e) (sz:=z.cells.length) (olds:=[]) (news:=(Builtin.zeroCells Z.cells n).toList) (z:=Z.cells) (e:=e) h (by rw[k7];exact hZ) ?_ (by rw[Ib]) (by have:=grownCap_ge w n 0 e;omega) rfl ?_
 .simpa[Builtin.zeroCells]using hrep
 .simp only[execOp,ho,resolve,invoke,builtin,aH,Sem.run_pure,Result.andThen];have e2':A.eval y=.int .i64 (Int.ofNat n):=e2;simp only[List.map_toArray,bD,kX,hX,e2'];rw[hrun]
end
section
variable {P:Program}{comp:FuncId->Code->aN}{g g':G}{σ σ':H}{w w':World}{β:Nat->Option Nat}{lo lo':Lo}{fr:List V}{A:Act}
def kL{w:World}{a:Addr}{n k:Nat}(h:k≠a.block):(w.freeze a n).heap[k]?=w.heap[k]?:=by
 unfold World.freeze
 split
 .rfl
 .simp[Array.getElem?_modify,Ne.symm h]
def LV{w:World}{a:Addr}{n:Nat}:(w.freeze a n).heap.size=w.heap.size:=by
 unfold World.freeze
 split<;>simp
def YU{w:World}{a:Addr}{n:Nat}(b o:Nat):(w.freeze a n).cell? ⟨b,o,none⟩=w.cell? ⟨b,o,none⟩:=by
 by_cases h:b=a.block
 .subst h;unfold World.freeze
  split
  .rfl
  .simp only[World.cell?,Array.getElem?_modify];simp only[if_true];cases hq:w.heap[a.block]? with
   |none=>simp
   |some ob=>cases ob<;>simp
 .exact cell_of_block (a:=⟨b,o,none⟩) (kL h)
def adT{d:Nat}{o:Oper}{x:Operand}{x':aC}{s t el e0:TypeId}(hs:P.underlying s=some (.slice e0))(ht:P.underlying t=some (.slice el))(he:P.underlying e0=some (.int .u8))(hst:s=t)(hx:bQ x=some x')(ho:o.op=.convert s t x) :
  Sound P comp d (.Ic x') o:=by
 intro g β σ lo fr A w v lo' σ' h e;have hr:=Rs.ev h.f hx;simp only[aK,xk]at e;generalize hv:x'.ev fr=vx at e hr;cases vx<;>try (cases e;done)
 rename_i xs ex;cases xs with
 |nil=>cases e
 |cons y ys =>
 dsimp only at e;cases y<;>try (simp[EC]at e;done)
 rename_i ky ny;simp only[EC,cond_true,OR.ok.injEq]at e;obtain⟨rfl,rfl,rfl⟩:=e;subst hst;rw[hs]at ht;cases ht;generalize hX:A.eval x=X at hr;have hr0:Rv g (.list (.int ky ny::ys) ex) X:=hr;cases hr with
 |@list _ _ b off cap k vs hk hc hex hpn hv' hrr =>
 have VR:g.φ b off=some (vs 0 0):=by
  have:=hv' 0 _ 0 (.int ky ny) rfl rfl;simpa using this
 have hcell:=h.w.frozen b off _ VR;have hne:∀k,(∀o,g.φ k o=none)\/g.pin k->k≠b:=by
  intro k hk e;subst e;rcases hk with hk|hk
  .rw[hk off]at VR;cases VR
  .exact hpn _ bZ rfl hk
 have aCk:∃C ty fz,w.heap[b]?=some (.cells C ty fz):=by
  cases hq:w.heap[b]? with
  |none=>simp[World.cell?,hq]at hcell
  |some ob=>cases ob<;>simp[World.cell?,hq]at hcell;exact⟨_,_,_,rfl⟩
 obtain⟨C,ty,fz,hb⟩:=aCk;have hw':Rw P comp g σ (w.freeze { block:=b,off:=C.size } 1):=by
  refine⟨λb' o' v' e'=>?_,λi ob e'=>?_,h.w.inj,h.w.fresh,λi b' n e'=>by rw[LV];exact h.w.bound i b' n e'⟩
  .rw[YU];exact h.w.frozen b' o' v' e'
  .obtain⟨b',n,r,kk,f⟩:=h.w.objs i ob e';exact⟨b',n,r,kk.mono (.refl g) (kL (hne b' (.inl f))),f⟩
 refine⟨.slice (some ⟨b,off,none⟩) (V.int ky ny::ys).length cap,w.freeze { block:=b,off:=C.size } 1,g,.inl ?_,.refl g,hr0,hw',h.b.same (.refl g) (λ_ hl _=>hl) (λ_ _ hp _=>hp) (λt b' e'=>kL (hne b' (.inl (h.b.apart t b' e').2))),
  ⟨?_,?_,?_,by rw[LV];exact aJ _,λk _ _ _ hp=>kL (hne k hp)⟩,λ_ hl _=>hl,λ_ _ hp _=>hp⟩
 .have hsh:w.shape? b=some (ty,C.size):=EX hb;have hm:(markStringish ⟨b,off,none⟩).run P w=.ok () (w.freeze { block:=b,off:=C.size } 1):=by
   simp[markStringish,Go.shape,freeze,Sem.run,hsh,Result.andThen]
  simp only[execOp,ho,hX,convert];simp[run_underlying hs,run_underlying he,hm,Result.andThen]
 all_goals (unfold World.freeze;split<;>rfl)
end
section
variable {P:Program}{comp:FuncId->Code->aN}{idle:List Nat}{g g' g'':G}{σ σ' sJ:H}{w w' w'':World}{β β' β'':Nat->Option Nat}{lo lo':Lo}{fr fr':List V}{A A':Act}{B0:Nat}
def Fw(ro:Option Nat):Fence:={ fn:=λ_=>True,depth:=none,alive:=false,round:=ro }
structure A8 (P:Program)(f:FuncId):Prop where
 enters:∀(args:Array Value) (w:World),(callFunc f args).run P w=.ok (.enter f args) w
 calls:∀(args:Array Value) (w:World),CallsDIn (Fw none) 0 P f args .returning w λe u w'=>(∃v,e=.returned v)/\u=.returning/\w'.heap=w.heap/\w'.os=w.os/\w'.tape=w.tape/\w'.output=w.output
def Df(P:Program)(B0:Nat)(w:World):List Deferred->Prop
 |[]=>True
 |d::ds=>((∃r,B0<=r/\d.target=.collected r/\w.heap[r]?=some (.deferred (some []))/\∀d'∈ds,d'.target≠.collected r)\/(∃f cap,d.target=.fn (.func f) cap/\A8 P f))/\Df P B0 w ds
structure Sc (P:Program)(comp:FuncId->Code->aN)(B0:Nat)(g:G)(β:Nat->Option Nat)(σ:H)(lo:Lo)(fr:List V)(A:Act)(w:World):Prop where
 s:St P comp g β σ lo fr A w
 d:Df P B0 w A.defers
 le:B0<=w.heap.size
structure Stp (g:G)(β:Nat->Option Nat)(σ:H)(w:World)(g':G)(β':Nat->Option Nat)(σ':H)(w':World):Prop where
 le:g.le g'
 qg:Frm g σ (GU β) w w'
 live:∀b,Live g' σ' b->b<w.heap.size->Live g σ b
 box:∀t b,β' t=some b->b<w.heap.size->GU β b
 phi:∀b,b<w.heap.size->(∀o,g.φ b o=none)->¬Live g σ b->∀o,g'.φ b o=none
def Stp.refl:Stp g β σ w g β σ w:=⟨.refl g,.refl _,λ_ h _=>h,λt b h _=>⟨t,h⟩,λ_ _ h _=>h⟩
def Stp.trans(h:Stp g β σ w g' β' σ' w')(k:Stp g' β' σ' w' g'' β'' sJ w''):Stp g β σ w g'' β'' sJ w'' where
 le:=h.le.trans k.le
 qg:=⟨k.qg.os.trans h.qg.os,k.qg.tape.trans h.qg.tape,k.qg.output.trans h.qg.output,lM h.qg.size k.qg.size,λi hi hl hb hp =>
  (k.qg.block i (jQ hi h.qg.size) (λx=>hl (h.live i x hi)) (λ⟨t,ht⟩=>hb (h.box t i ht hi)) (hp.imp (λhp=>h.phi i hi hp hl) (h.le.pin i).1)).trans (h.qg.block i hi hl hb hp)⟩
 live b hb hlt:=h.live b (k.live b hb (jQ hlt h.qg.size)) hlt
 box t b hb hlt:=let⟨u,hu⟩:=k.box t b hb (jQ hlt h.qg.size);h.box u b hu hlt
 phi b hlt hp hl:=k.phi b (jQ hlt h.qg.size) (h.phi b hlt hp hl) (λx=>hl (h.live b x hlt))
def St.nobody(h:St P comp g β σ lo fr A w){r:Nat}{ds:Option (List Deferred)}(hr:w.heap[r]?=some (.deferred ds)):¬Live g σ r/\¬GU β r/\∀o,g.φ r o=none:=by
 refine⟨?_,?_,λo=>?_⟩
 .rintro ⟨i,n,hi,hb⟩
  cases e:σ.get i with
  |none=>simp[e]at hi
  |some ob =>
   obtain⟨b,n',h1,h2,_⟩:=h.w.objs i ob e;rw[hb]at h1;cases h1;cases ob with
   |cells cs=>obtain⟨c,ty,h3,_⟩:=h2;rw[hr]at h3;cases h3
   |map es=>obtain⟨ents,h3,_⟩:=h2;rw[hr]at h3;cases h3
   |loop l=>obtain⟨L,h3,_⟩:=h2;rw[hr]at h3;cases h3
 .rintro ⟨t,ht⟩
  obtain⟨cs,c,ty,_,h5,_⟩:=h.b.boxes t r ht;rw[hr]at h5;cases h5
 .cases e:g.φ r o with
  |none=>rfl
  |some v =>
   have:=h.w.frozen r o v e;simp[World.cell?,hr]at this
def Df.keep:∀{ds:List Deferred},(∀(r:Nat) (x:Option (List Deferred)),w.heap[r]?=some (Go.Obj.deferred x)->w'.heap[r]?=w.heap[r]?)->Df P B0 w ds->Df P B0 w' ds
 |[],_,_=>trivial
 |d::ds,hk,h=>by
  refine⟨?_,Df.keep hk h.2⟩;rcases h.1 with⟨r,h0,h1,h2,h3⟩|h1
  .exact .inl ⟨r,h0,h1,(hk r _ h2).trans h2,h3⟩
  .exact .inr h1
def Sc.step(h:Sc P comp B0 g β σ lo fr A w)(hs:Stp g β σ w g' β' σ' w'){ds:List Deferred}(hd:ds=A.defers):Df P B0 w' ds:=by
 subst hd;refine Df.keep (λr x hr=>?_) h.d;have:=h.s.nobody hr;exact hs.qg.block r (eY.1 hr).1 this.1 this.2.1 (.inl this.2.2)
def Jump.ex:Jump->Exit
 |.ret=>.ret
 |.exit i=>.exit i
 |.goto l=>.goto l
def kV(P:Program)(comp:FuncId->Code->aN)(B0:Nat)(g:G)(β:Nat->Option Nat)(σ:H)(w:World)(out:Out):Exit->Act->World->Prop :=
 λe A' w'=>∃(fr':List V) (lo':Lo) (σ':H),((out=.norm fr' lo' σ'/\e=.normal)\/∃j,out=.jump j fr' lo' σ'/\e=j.ex) /\
  ∃(g':G) (β':Nat->Option Nat),Sc P comp B0 g' β' σ' lo' fr' A' w'/\Stp g β σ w g' β' σ' w'
def kV.after(hs:Stp g β σ w g' β' σ' w'){out:Out}{e:Exit}{a:Act}{v:World}(h:kV P comp B0 g' β' σ' w' out e a v):kV P comp B0 g β σ w out e a v:=by
 obtain⟨mP,lo1,σ1,h1,g1,β1,h2,h3⟩:=h;exact⟨mP,lo1,σ1,h1,g1,β1,h2,hs.trans h3⟩
def Og(P:Program)(comp:FuncId->Code->aN)(vc:aN)(fr:List V)(lo:Lo)(σ:H)(out:Out):Prop :=
 ∀(f:FuncId) (c:Code) (ro:Option Nat) (B0:Nat) (g:G) (β:Nat->Option Nat) (A:Act) (w:World),comp f c=vc->(ro.isSome=true->flat c=true)->Sc P comp B0 g β σ lo fr A w->out≠.fail->c.wpIn (Fw ro) 0 P (kV P comp B0 g β σ w out) A w
def Gp(h:Sc P comp B0 g β σ lo fr A w):kV P comp B0 g β σ w (.norm fr lo σ) .normal A w:=⟨fr,lo,σ,.inl ⟨rfl,rfl⟩,g,β,h,.refl⟩
def Gn(h:Sc P comp B0 g β σ lo fr A w)(j:Jump):kV P comp B0 g β σ w (.jump j fr lo σ) j.ex A w:=⟨fr,lo,σ,.inr ⟨j,rfl,rfl⟩,g,β,h,.refl⟩
def seq_ok{x y:Code}{ro:Option Nat}{o1 out:Out}(hx:x.wpIn (Fw ro) 0 P (kV P comp B0 g β σ w o1) A w)
  (hn:∀mP lo1 σ1 g1 β1 A1 w1,o1=.norm mP lo1 σ1->Sc P comp B0 g1 β1 σ1 lo1 mP A1 w1->y.wpIn (Fw ro) 0 P (kV P comp B0 g1 β1 σ1 w1 out) A1 w1)
  (hj:∀j mP lo1 σ1,o1=.jump j mP lo1 σ1->out=.jump j mP lo1 σ1):(Code.seq x y).wpIn (Fw ro) 0 P (kV P comp B0 g β σ w out) A w:=by
 refine wpIn_seq (wpIn_mono hx λe a v hp=>?_);obtain⟨mP,lo1,σ1,h1,g1,β1,h2,h3⟩:=hp;rcases h1 with⟨ho,rfl⟩|⟨j,ho,rfl⟩
 .exact wpIn_mono (hn mP lo1 σ1 g1 β1 a v ho h2) λe a' v' hq=>hq.after h3
 .have:kV P comp B0 g β σ w out j.ex a v:=⟨mP,lo1,σ1,.inr ⟨j,hj _ _ _ _ ho,rfl⟩,g1,β1,h2,h3⟩;cases j<;>exact this
def ajO{id:Nat}{c:Code}{ro:Option Nat}{o1:Out}(hx:c.wpIn (Fw ro) 0 P (kV P comp B0 g β σ w o1) A w):(Code.block id c).wpIn (Fw ro) 0 P (kV P comp B0 g β σ w (iw id o1)) A w:=by
 refine wpIn_block (wpIn_mono hx λe a v hp=>?_);obtain⟨mP,lo1,σ1,h1,g1,β1,h2,h3⟩:=hp;rcases h1 with⟨rfl,rfl⟩|⟨j,rfl,rfl⟩
 .exact⟨mP,lo1,σ1,.inl ⟨rfl,rfl⟩,g1,β1,h2,h3⟩
 .cases j with
  |ret=>exact⟨mP,lo1,σ1,.inr ⟨.ret,rfl,rfl⟩,g1,β1,h2,h3⟩
  |goto l=>exact⟨mP,lo1,σ1,.inr ⟨.goto l,rfl,rfl⟩,g1,β1,h2,h3⟩
  |exit i =>
   by_cases hi:i=id
   .subst hi;simp only[Jump.ex,Exit.inBlock,if_true];exact⟨mP,lo1,σ1,.inl ⟨by simp[iw],rfl⟩,g1,β1,h2,h3⟩
   .simp only[Jump.ex,Exit.inBlock,hi,if_false];exact⟨mP,lo1,σ1,.inr ⟨.exit i,by simp[iw,Iy hi],rfl⟩,g1,β1,h2,h3⟩
def Ve{c:Operand}{c':aC}{x y:Code}{ro:Option Nat}{t:Bool}{Q:Exit->Act->World->Prop}(h:St P comp g β σ lo fr A w)(hc:bQ c=some c')(ht:c'.ev fr=.bool t)
  (hx:(if t then x else y).wpIn (Fw ro) 0 P Q A w):(Code.cond c x y).wpIn (Fw ro) 0 P Q A w :=
 wpIn_cond (Iz (Rs.ev h.f hc) ht) hx
end
section
variable {P:Program}{Hn:Hints}{g g' g'':G}{σ σ' sJ:H}{w w' w'':World}{β β' β'':Nat->Option Nat}{lo lo':Lo}{fr fr':List V}{A A':Act}{B0:Nat}
def aaT{b:Frame}{a:Act}{k:List Item}{cs:List Frame}{c:Code}:Go.step P (lone (b.atR a (.code (.scope c)::k)) cs w)=.next (lone (b.atR a (.code c::.inScope c::k)) cs w) :=
 step_lone_go (by simp[stepG,stepG.exec,Frame.atR])
def SC{b:Frame}{a:Act}{k:List Item}{cs:List Frame}{c:Code}:Go.step P (lone (b.atR a (.inScope c::k)) cs w)=.next (lone (b.atR a k) cs w) :=
 step_lone_go (by simp[stepG,stepG.exec,Frame.atR])
def Oc(F:Fence)(n:Nat)(P:Program)(c rest:Code)(Q:Exit->Act->World->Prop)(a:Act)(w:World):Prop :=
 ∀(b:Frame) (k:List Item) (cs:List Frame),b.roundOf=F.round->F.fn b.fn->F.room (cs.length+1+n) ->
  ∃e a' w',Q e a' w'/\ArrivesIn (Machine.fenced P F) P (lone (b.atR a (.code rest::.inScope c::k)) cs w) b k cs e a' w'
def V6(F:Fence)(n:Nat)(P:Program)(c:Code)(Q:Exit->Act->World->Prop):Exit->Act->World->Prop
 |.goto l,a,w=>match Go.findLabel c l with|some r=>Oc F n P c r Q a w|none=>Q (.goto l) a w
 |e,a,w=>Q e a w
def XI{F:Fence}{n:Nat}{c rest:Code}{Q:Exit->Act->World->Prop}{a:Act}(h:rest.wpIn F n P (V6 F n P c Q) a w):Oc F n P c rest Q a w:=by
 intro b k cs hro hb hr;obtain⟨e,a₁,w₁,hq,harr⟩:=h b (.inScope c::k) cs hro hb hr;cases e with
 |normal=>exact⟨.normal,a₁,w₁,hq,StepsIn.trans harr (.one (fenced_calm hb hr rfl) SC)⟩
 |exit id =>
  have hx:exitTo id (.inScope c::k)=exitTo id k:=by simp[exitTo]
  exact⟨.exit id,a₁,w₁,hq,λk' hk=>harr.1 k' (by rw[hx];exact hk),λhr' hk=>harr.2 hr' (by rw[hx];exact hk)⟩
 |goto l =>
  cases hf:Go.findLabel c l with
  |some r =>
   simp only[V6,hf]at hq;have hg:gotoIn l (.inScope c::k)=some (.code r::.inScope c::k):=by simp[gotoIn,hf]
   obtain⟨e₂,a₂,w₂,hq₂,harr₂⟩:=hq b k cs hro hb hr;exact⟨e₂,a₂,w₂,hq₂,.of_steps (harr.1 _ hg) harr₂⟩
  |none =>
   simp only[V6,hf]at hq;have hx:gotoIn l (.inScope c::k)=gotoIn l k:=by simp[gotoIn,hf]
   exact⟨.goto l,a₁,w₁,hq,λk' hk=>harr.1 k' (by rw[hx];exact hk),λhr' hk=>harr.2 hr' (by rw[hx];exact hk)⟩
 |ret=>exact⟨_,a₁,w₁,hq,harr⟩
 |panic ch=>exact⟨_,a₁,w₁,hq,harr⟩
 |outgrown=>exact⟨_,a₁,w₁,hq,harr⟩
def aef{F:Fence}{n:Nat}{c:Code}{Q:Exit->Act->World->Prop}{a:Act}(h:Oc F n P c c Q a w):(Code.scope c).wpIn F n P Q a w:=by
 intro b k cs hro hb hr;obtain⟨e,a',w',hq,harr⟩:=h b k cs hro hb hr;exact⟨e,a',w',hq,.of_steps (.one (fenced_calm hb hr rfl) aaT) harr⟩
def Pg(f:Nat):∀(c:Code) (l:Nat),findLabel (aX P Hn f c) l=(Go.findLabel c l).map (aX P Hn f):=by
 intro c
 induction c with
 |seq a b iha ihb =>
  intro l;simp only[aX,findLabel,Go.findLabel,iha,ihb];cases Go.findLabel a l<;>simp[aX]
 |label l' =>
  intro l;simp only[aX,findLabel,Go.findLabel];by_cases h:l'=l
  .subst h;simp[aX]
  .simp[Iy h,h]
 |region id ops d=>intro l;cases d<;>simp[aX,findLabel,Go.findLabel]
 |rangeFunc g ps a b _ _ =>
  intro l;simp only[aX,Go.findLabel]
  split<;>simp[findLabel]
 |_=>intro l;simp[aX,findLabel,Go.findLabel]
def ab4:∀{c r:Code} {l:Nat},flat c=true->Go.findLabel c l=some r->flat r=true:=by
 intro c
 induction c with
 |seq a b iha ihb =>
  intro r l h e;simp[flat]at h;simp only[Go.findLabel]at e;cases ha:Go.findLabel a l with
  |some r'=>rw[ha]at e;simp at e;subst e;simp[flat,iha h.1 ha,h.2]
  |none=>rw[ha]at e;exact ihb h.2 e
 |label l'=>intro r l h e;simp[Go.findLabel]at e;rw[<- e.2];rfl
 |_=>intro r l h e;simp[Go.findLabel]at e
def aek(P:Program)(Hn:Hints)(vc vr:aN)(fr:List V)(lo:Lo)(σ:H)(out:Out):Prop :=
 ∀(f:FuncId) (c r:Code) (ro:Option Nat) (B0:Nat) (g:G) (β:Nat->Option Nat) (A:Act) (w:World),aX P Hn f c=vc->aX P Hn f r=vr->(ro.isSome=true->flat c=true)->(ro.isSome=true->flat r=true) ->
  Sc P (aX P Hn) B0 g β σ lo fr A w->out≠.fail->Oc (Fw ro) 0 P c r (kV P (aX P Hn) B0 g β σ w out) A w
def Sc.call(h:Sc P (aX P Hn) B0 g β σ lo fr A w)(hw:Rw P (aX P Hn) g' σ' w')(hs:Stp g (λ_=>none) σ w g' (λ_=>none) σ' w'):Sc P (aX P Hn) B0 g' β σ' lo fr A w'/\Stp g β σ w g' β σ' w':=by
 have hbk:∀k,k<w.heap.size->¬Live g σ k->((∀o,g.φ k o=none)\/g.pin k)->w'.heap[k]?=w.heap[k]?:=λk hk hl hp=>hs.qg.block k hk hl (by simp[GU]) hp;have hst:Stp g β σ w g' β σ' w':=⟨hs.le,⟨hs.qg.os,hs.qg.tape,hs.qg.output,hs.qg.size,λk hk hl _ hp=>hbk k hk hl hp⟩,hs.live,λt b hb _=>⟨t,hb⟩,hs.phi⟩;refine⟨⟨⟨h.s.f.mono hs.le,h.s.b.same hs.le hs.live (λb hb hp hl o=>hs.phi b hb hp hl o) (λt b hb=>?_),hw⟩,h.step hst rfl,lM h.le hst.qg.size⟩,hst⟩;obtain⟨cs,c,ty,_,h5,_⟩:=h.s.b.boxes t b hb;exact hbk b (eY.1 h5).1 (h.s.b.apart t b hb).1 (.inl (h.s.b.apart t b hb).2)
end
section
variable {P:Program}{Hn:Hints}{comp:FuncId->Code->aN}{g g' g'':G}{σ σ' sJ:H}{w w' w'':World}{β β' β'':Nat->Option Nat}{lo lo':Lo}{fr fr':List V}{A A':Act}{B0:Nat}{ro:Option Nat}
def Form(v v':V):Prop:=(∃cs cs',v=.agg cs/\v'=.agg cs'/\cs'.length=cs.length)\/((∀cs,v≠.agg cs)/\∀cs,v'≠.agg cs)
def Form.refl(v:V):Form v v:=by
 cases v<;>first|exact .inl ⟨_,_,rfl,rfl,rfl⟩|exact .inr ⟨by simp,by simp⟩
def Form.cells{v v':V}(h:Form v v'):v'.cells.length=v.cells.length:=by
 rcases h with⟨cs,cs',rfl,rfl,h⟩|⟨h1,h2⟩
 .exact h
 .have:∀z:V,(∀cs,z≠.agg cs)->z.cells=[z]:=by intro z hz;cases z<;>first|rfl|exact absurd rfl (hz _)
  rw[this _ h1,this _ h2];rfl
structure Fz (P:Program)(comp:FuncId->Code->aN)(g:G)(σ:H)(w:World)(vs:List V)(xs:List Value)(vs':List V)(σ':H)(g':G):Prop where
 le:g.le g'
 rv:lW g' vs' xs
 rw:Rw P comp g' σ' w
 live:∀b,Live g' σ' b->Live g σ b
 phi:∀b,(∀o,g.φ b o=none)->¬Live g σ b->∀o,g'.φ b o=none
 form:vs'.length=vs.length/\∀(i:Nat) v v',vs[i]?=some v->vs'[i]?=some v'->Form v v'
def Fz.same{vs:List V}{xs:List Value}(h:lW g vs xs)(hw:Rw P comp g σ w):Fz P comp g σ w vs xs vs σ g :=
 ⟨.refl g,h,hw,λ_ h=>h,λ_ h _=>h,rfl,λi v v' a b=>by rw[a]at b;cases b;exact .refl v⟩
def Fz.cons{v v':V}{x:Value}{vs vs':List V}{xs:List Value}(hv:Rv g' v' x)(hf:Form v v')(hle:g.le g')(hl:∀b,Live g' σ' b->Live g σ b)(hp:∀b,(∀o,g.φ b o=none)->¬Live g σ b->∀o,g'.φ b o=none)
  (h:Fz P comp g' σ' w vs xs vs' sJ g''):Fz P comp g σ w (v::vs) (x::xs) (v'::vs') sJ g'' where
 le:=hle.trans h.le
 rv:=.cons (hv.mono h.le) h.rv
 rw:=h.rw
 live b hb:=hl b (h.live b hb)
 phi b h1 h2:=h.phi b (hp b h1 h2) (λhx=>h2 (hl b hx))
 form:=⟨by simp[h.form.1],λi a b ha hb=>by
  cases i with
  |zero=>simp at ha hb;subst ha hb;exact hf
  |succ i=>exact h.form.2 i a b (by simpa using ha) (by simpa using hb)⟩
def Aa(x:V)(e:List Value):Value:=match x with|.agg _=>.agg e.toArray|_=>e.headD Go.undef
def abO{x:V}{e:List Value}(h:lW g x.cells e):Rv g x (Aa x e):=by
 have one:∀z:V,z.cells=[z]->x=z->Aa x e=e.headD Go.undef->Rv g x (Aa x e):=by
  intro z hz hx he;subst hx;rw[hz]at h;obtain⟨y,ys,rfl,hy,hs⟩:=h.Dz;have:=hs.Rl;subst this;rw[he];exact hy
 cases x<;>first|exact one _ rfl rfl rfl|exact .Qg (by simpa[V.cells]using h)
def Vk{x x':V}{e:List Value}(hl:x.cells.length=e.length)(hf:Form x x')(h:Rv g x' (Aa x e)):lW g x'.cells e:=by
 rcases hf with⟨cs,cs',rfl,rfl,hlen⟩|⟨h1,h2⟩
 .obtain⟨A,hA,hs⟩:=h.Nw;simp[Aa]at hA;subst hA;simpa[V.cells]using hs
 .have X9:∀z:V,(∀cs,z≠.agg cs)->z.cells=[z]:=by intro z hz;cases z<;>first|rfl|exact absurd rfl (hz _)
  rw[X9 _ h1]at hl;rw[X9 _ h2];have hev:Aa x e=e.headD Go.undef:=by cases x<;>first|rfl|exact absurd rfl (h1 _)
  rw[hev]at h;cases e with
  |nil=>simp at hl
  |cons y ys =>
   cases ys with
   |nil=>exact .cons h (.nil g)
   |cons _ _=>simp at hl
def akQ{len c':Nat}:∀(cap:Option Nat),(match cap with|some c=>Nat.beq c len|none=>false)=true->(∀c,cap=some c->c'=c)->c'=len
 |none,he,_=>by cases he
 |some c,he,hcap=>by have h1:=aP he;have h2:=hcap c rfl;omega
def avK:∀(n:Nat) (vs:List V) (σ:H) (vs':List V) (σ':H) (g:G) (xs:List Value),lW g vs xs->Rw P comp g σ w->dF n vs σ=(vs',σ')->∃g',Fz P comp g σ w vs xs vs' σ' g':=by
 intro n
 induction n with
 |zero =>
  intro vs σ vs' σ' g xs h hw e;simp only[dF,Prod.mk.injEq]at e;obtain⟨rfl,rfl⟩:=e;exact⟨g,Fz.same h hw⟩
 |succ n ih =>
  intro vs σ vs' σ' g xs h hw e;cases vs with
  |nil =>
   simp only[dF,Prod.mk.injEq]at e;obtain⟨rfl,rfl⟩:=e;exact⟨g,Fz.same h hw⟩
  |cons v vs =>
   obtain⟨x,ys,rfl,hx,hs⟩:=h.Dz;have keep:∀q,kQ v (dF n vs σ)=q->q=(vs',σ')->∃g',Fz P comp g σ w (v::vs) (x::ys) vs' σ' g':=by
    intro q hq hqe;subst hqe;cases hr:dF n vs σ with
    |mk r1 h1 =>
     rw[hr]at hq;simp only[kQ,Prod.mk.injEq]at hq;obtain⟨rfl,rfl⟩:=hq;obtain⟨g',hg'⟩:=ih vs σ r1 h1 g ys hs hw hr;exact⟨g',Fz.cons hx (.refl v) (.refl g) (λ_ h=>h) (λ_ h _=>h) hg'⟩
   cases v with
   |agg cs =>
    obtain⟨A,rfl,hA⟩:=hx.Nw;simp only[dF]at e;cases hr:dF n cs σ with
    |mk c1 h1 =>
     rw[hr]at e;dsimp only at e;cases hr2:dF n vs h1 with
     |mk r2 h2 =>
      rw[hr2]at e;simp only[kQ,Prod.mk.injEq]at e;obtain⟨rfl,rfl⟩:=e;obtain⟨g1,k1⟩:=ih cs σ c1 h1 g A.toList hA hw hr;obtain⟨g2,k2⟩:=ih vs h1 r2 h2 g1 ys (hs.mono k1.le) k1.rw hr2;exact⟨g2,Fz.cons (.Qg k1.rv) (.inl ⟨_,_,rfl,rfl,k1.form.1⟩) k1.le k1.live k1.phi k2⟩
   |tuple cs =>
    obtain⟨A,rfl,hA⟩:=hx.UM;simp only[dF]at e;cases hr:dF n cs σ with
    |mk c1 h1 =>
     rw[hr]at e;dsimp only at e;cases hr2:dF n vs h1 with
     |mk r2 h2 =>
      rw[hr2]at e;simp only[kQ,Prod.mk.injEq]at e;obtain⟨rfl,rfl⟩:=e;obtain⟨g1,k1⟩:=ih cs σ c1 h1 g A.toList hA hw hr;obtain⟨g2,k2⟩:=ih vs h1 r2 h2 g1 ys (hs.mono k1.le) k1.rw hr2;exact⟨g2,Fz.cons (.mkTuple k1.rv) (.inr ⟨by simp,by simp⟩) k1.le k1.live k1.phi k2⟩
   |hsl id off len cap sz =>
    simp only[dF]at e;cases hget:σ.get id with
    |none=>rw[hget]at e;exact keep _ rfl e
    |some ob =>
     rw[hget]at e;cases ob with
     |map es=>exact keep _ rfl e
     |loop l=>exact keep _ rfl e
     |cells cs =>
      dsimp only at e;cases hch:chunk sz len (skip off cs)with
      |none=>rw[hch]at e;exact keep _ rfl e
      |some el =>
       rw[hch]at e;dsimp only at e;cases hr:dF n el (σ.del id)with
       |mk c1 h1 =>
        rw[hr]at e;dsimp only at e;cases hr2:dF n vs h1 with
        |mk r2 h2 =>
         rw[hr2]at e;simp only[kQ,Prod.mk.injEq]at e;obtain⟨rfl,rfl⟩:=e;have hgc:getCells σ id=some cs:=by simp[getCells,hget]
         obtain⟨b,m,C,ty,hρ,hb,hCs,hcl,hcv,hφ,hlive⟩:=hw.cells hgc;cases hx with
         |@hsl _ b' m' _ _ _ c' _ aCR hlc hcap hmn =>
         obtain⟨rfl,rfl⟩:=Prod.mk.inj (gZ (hρ.symm.trans aCR));have hnd:=Dj hw (by simp[hget]) hρ;have hle0:=G.FZ (g:=g) (b:=b) C hφ;have hw1:Rw P comp (g.freeze b C) (σ.del id) w:=(hw.del id).freeze hb hnd hφ;have azd:∀k,Live (g.freeze b C) (σ.del id) k->Live g σ k:=λk hk=>Live.Dn (Live.freeze hk);have aCq:∀k,(∀o,g.φ k o=none)->¬Live g σ k->∀o,(g.freeze b C).φ k o=none:=λk h1 h2 o=>by
          rw[G.kL _ _ (by intro e;subst e;exact h2 hlive)];exact h1 o
         obtain⟨hel,hlen,hcells⟩:=OI hch;rw[xF]at hlen hcells
         let E:Nat->List Value:=λi=>(List.range sz).map λj=>(C[off+(i*sz+j)]?).getD Go.undef
         have hcs:∀(j:Nat) c,(cs.drop off)[j]?=some c->∃z,C[off+j]?=some z/\Rv g c z:=λj c hc=>by
          rw[jm]at hc;exact hcv _ _ hc
         have hEi:∀i x,el[i]?=some x->lW (g.freeze b C) x.cells (E i):=by
          intro i x hx;have hi:i<len:=by have:=(fB.1 hx).1;omega
          have hxc:=hcells i x hx;have hfit:i*sz+sz<=(cs.drop off).length:=by
           have:(i+1)*sz<=len*sz:=uK _ hi;rw[kW]at this;omega
          refine⟨by rw[hxc];simp[E]at hfit|-;omega,λj c z hc hz=>?_⟩;rw[hxc]at hc;simp only[jd,jm]at hc
          split at hc
          .rename_i hj;simp[E,hj]at hz;obtain⟨y,hy,hyr⟩:=hcs (i*sz+j) c (by rw[jm];exact hc);rw[hy]at hz;simp at hz;subst hz;exact hyr.mono hle0
          .cases hc
         have hEv:lW (g.freeze b C) el (el.zipIdx.map λp=>Aa p.1 (E p.2)):=by
          refine⟨by simp,λi x z hx hz=>?_⟩;simp[hx]at hz;subst hz;exact abO (hEi i x hx)
         obtain⟨g1,k1⟩:=ih el (σ.del id) c1 h1 (g.freeze b C) _ hEv hw1 hr;obtain⟨g2,k2⟩:=ih vs h1 r2 h2 g1 ys (hs.mono (hle0.trans k1.le)) k1.rw hr2;have ayV:c1.length=len:=by rw[k1.form.1,hel]
         have hcell:∀(i:Nat) x (j:Nat) c,c1[i]?=some x->x.cells[j]?=some c->∃z,C[off+i*sz+j]?=some z/\Rv g1 c z:=by
          intro i x' j c hx' hj;have hi:i<el.length:=by have:=(fB.1 hx').1;omega
          have hx0:el[i]?=some el[i]:=bV hi;have hform:=k1.form.2 i _ _ hx0 hx';have RD:=k1.rv.2 i x' (Aa el[i] (E i)) hx' (by simp[hx0]);have hback:=Vk (hEi i _ hx0).1 hform RD;obtain⟨z,hz,CV⟩:=hback.get hj;have hq1:j<sz:=by have:=(fB.1 hz).1;simpa[E]using this
          have hze:(C[off+(i*sz+j)]?).getD Go.undef=z:=by simpa[E,hq1]using hz
          have hfit:i*sz+j<(cs.drop off).length:=by
           have:(i+1)*sz<=len*sz:=uK _ (by omega);rw[kW]at this;omega
          obtain⟨y,hy,_⟩:=hcs (i*sz+j) _ (bV hfit);rw[hy]at hze;simp at hze;subst hze;exact⟨y,by rw[gq];exact hy,CV⟩
         have hk:∀x∈c1,x.cells.length=sz:=by
          intro x hxm;obtain⟨i,hi⟩:=List.mem_iff_getElem?.1 hxm;have hil:i<el.length:=by have:=(fB.1 hi).1;omega
          have hx0:el[i]?=some el[i]:=bV hil;rw[(k1.form.2 i _ _ hx0 hi).cells,(hEi i _ hx0).1];simp[E]
         have aCS:∀o v,C[o]?=some v->g1.φ b o=some v:=λo v hv=>k1.le.φ b o v (by rw[G.Ae];exact hv);have hlist:∀ex:Bool,(ex=true->c'=len)->Rv g1 (.list c1 ex) (.slice (some ⟨b,off,none⟩) len c'):=by
          intro ex hex;have:=Rv.list (g:=g1) (xs:=c1) (ex:=ex) (b:=b) (o:=off) (cap:=c') sz (λi j=>(C[off+i*sz+j]?).getD Go.undef) hk (by omega)
           (λhe=>by rw[ayV];exact hex he) (λ_ _ _ h=>((k1.le.pin b).2 h).2 rfl)
           (λi x j c hx hj=>by
            obtain⟨z,hz,_⟩:=hcell i x j c hx hj;rw[hz];exact aCS _ _ hz)
           (λi x j c hx hj=>by
            obtain⟨z,hz,CV⟩:=hcell i x j c hx hj;rw[hz];exact CV)
          rw[ayV]at this;exact this
         exact⟨g2,Fz.cons (hlist _ (λhe=>akQ cap he hcap)) (.inr ⟨by simp,by simp⟩) (hle0.trans k1.le) (λk hk=>azd k (k1.live k hk)) (λk h1 h2=>k1.phi k (aCq k h1 h2) (λhx=>h2 (azd k hx))) k2⟩
   |_=>exact keep _ rfl (by simpa only[dF]using e)
def VG{v v':V}{x:Value}(h:Rv g v x)(hw:Rw P comp g σ w)(e:qo v σ=(v',σ')):∃g',g.le g'/\Rv g' v' x/\Rw P comp g' σ' w/\(∀b,Live g' σ' b->Live g σ b)/\(∀b,(∀o,g.φ b o=none)->¬Live g σ b->∀o,g'.φ b o=none):=by
 unfold qo at e;cases hr:dF 1000000 [v] σ with
 |mk r h1 =>
  rw[hr]at e;obtain⟨g',k⟩:=avK 1000000 [v] σ r h1 g [x] (.cons h (.nil g)) hw hr;cases r with
  |nil=>have:=k.form.1;simp at this
  |cons y ys =>
   simp only[Prod.mk.injEq]at e;obtain⟨rfl,rfl⟩:=e;exact⟨g',k.le,k.rv.2 0 _ _ rfl rfl,k.rw,k.live,k.phi⟩
def QW{d:Nat}{o:Oper}{t el:TypeId}{l c:Operand}{l' c':aC}{s:Nat}{z:V}(hu:P.underlying t=some (.slice el))(hs:RI P el=some s)(hz:nR P el=some z)(hl:bQ l=some l')(hc:bQ c=some c')(ho:o.op=.makeSlice t l c) :
  Sound P comp d (.ni z.cells l' c') o:=by
 intro g β σ lo fr A w v lo' σ' h e;simp only[aK,kJ]at e;cases hq:iC z.cells l' c' fr lo σ with
 |fail=>rw[hq]at e;cases e
 |ok v1 lo1 σ1 =>
  rw[hq]at e;dsimp only at e;cases hf:qo v1 σ1 with
  |mk v2 σ2 =>
   rw[hf]at e;cases e;obtain⟨x,w',g1,h1,h2,h3,h4,h5,h6,h7,h8⟩:=G5 (comp:=comp) (d:=d) hu hs hz hl hc ho g β σ lo fr A w v1 lo' σ1 h hq;have hnl:∀t o,v1≠.aY t o:=by
    intro t o hv;subst hv;unfold iC at hq;simp only[cu]at hq
    repeat' split at hq
    all_goals cases hq
   obtain⟨g2,k1,k2,k3,k4,k5⟩:=VG (h3.rv hnl) h4 hf;refine⟨x,w',g2,h1,h2.trans k1,.dK k2,k3,⟨λt b hb=>?_,λt b hb=>?_,h5.inj⟩,h6,λb hb hlt=>h7 b (k4 b hb) hlt,λb hlt hp hl=>?_⟩
   .obtain⟨cs,cc,ty,q1,q2,q3,q4⟩:=h5.boxes t b hb;exact⟨cs,cc,ty,q1,q2,q3,λj x hx=>let⟨v,a,r⟩:=q4 j x hx;⟨v,a,r.mono k1⟩⟩
   .obtain⟨q1,q2⟩:=h5.apart t b hb;exact⟨λhl=>q1 (k4 b hl),k5 b q2 q1⟩
   .exact k5 b (h8 b hlt hp hl) (λhl2=>hl (h7 b hl2 hlt))
def abz{x y:aC}{sz:Nat}{fr:List V}{lo lo':Lo}{h h':H}{v:V}(e:dN sz x y fr lo h=.ok v lo' h'):∀t o,v≠.aY t o:=by
 intro t o hv;subst hv;unfold dN at e;cases h1:fH (y.ev fr)with
 |none=>rw[h1]at e;cases e
 |some n =>
  rw[h1]at e;dsimp only at e;cases h2:bJ h sz n (y.ev fr)with
  |none=>rw[h2]at e;cases e
  |some new =>
   rw[h2]at e;dsimp only at e;cases h3:bf new with
   |false=>rw[h3]at e;cases e
   |true =>
    rw[h3]at e;simp only[cond_true]at e;cases h4:ou h sz (x.ev fr) n new with
    |none=>rw[h4]at e;cases e
    |some p =>
     rw[h4]at e;obtain⟨u,hh⟩:=p;have hu:u=.aY t o:=by cases e;rfl
     subst hu;unfold ou at h4;cases h5:Nat.beq n 0 with
     |true =>
      rw[h5]at h4;simp only[cond_true]at h4;cases h6:yH (x.ev fr)with
      |false=>rw[h6]at h4;cases h4
      |true =>
       rw[h6]at h4;simp only[cond_true,aG,Prod.mk.injEq]at h4;rw[h4.1]at h6;cases h6
     |false =>
      rw[h5]at h4;simp only[cond_false]at h4;have fresh:∀(g:H) (n sz:Nat) (o2:Option (List V)) (nw:List V),iJ g n sz o2 nw≠some (.aY t o,hh):=by
       intro g n sz o2 nw hq;unfold iJ at hq;cases o2 with
       |none=>cases hq
       |some old =>
        dsimp only at hq;cases hb:Nat.ble n 16777216<;>rw[hb]at hq<;>cases hq
      cases hx:x.ev fr with
      |aj=>rw[hx]at h4;exact fresh _ _ _ _ _ h4
      |list xs ex =>
       rw[hx]at h4;cases ex with
       |false=>cases h4
       |true=>exact fresh _ _ _ _ _ h4
      |hsl id off len cap sz' =>
       rw[hx]at h4;dsimp only at h4;cases hb:Nat.beq sz sz' with
       |false=>rw[hb]at h4;cases h4
       |true =>
        rw[hb]at h4;simp only[cond_true]at h4;unfold Aq at h4;cases cap with
        |some c =>
         dsimp only at h4;cases hc:Nat.ble (len+n) c with
         |true =>
          rw[hc]at h4;simp only[cond_true,aep]at h4;cases hg:getCells h id with
          |none=>rw[hg]at h4;cases h4
          |some cs =>
           rw[hg]at h4;dsimp only at h4;cases hs:splice (off+len*sz) cs new<;>rw[hs]at h4<;>cases h4
         |false=>rw[hc]at h4;exact fresh _ _ _ _ _ h4
        |none =>
         dsimp only at h4;cases ho:Nat.beq off 0 with
         |true=>rw[ho]at h4;exact fresh _ _ _ _ _ h4
         |false=>rw[ho]at h4;cases h4
      |_=>rw[hx]at h4;cases h4
def aiV{d:Nat}{o:Oper}{op opF:oM}(hF:∀fr lo h v lo' h',aK d opF fr lo h=.ok v lo' h'->∃v1 h1,aK d op fr lo h=.ok v1 lo' h1/\qo v1 h1=(v,h')/\∀t o,v1≠.aY t o)(hs:Sound P comp d op o):Sound P comp d opF o:=by
 intro g β σ lo fr A w v lo' σ' h e;obtain⟨v1,σ1,hq,hf,hnl⟩:=hF _ _ _ _ _ _ e;obtain⟨x,w',g1,h1,h2,h3,h4,h5,h6,h7,h8⟩:=hs g β σ lo fr A w v1 lo' σ1 h hq;obtain⟨g2,k1,k2,k3,k4,k5⟩:=VG (h3.rv hnl) h4 hf;refine⟨x,w',g2,h1,h2.trans k1,.dK k2,k3,⟨λt b hb=>?_,λt b hb=>?_,h5.inj⟩,h6,λb hb hlt=>h7 b (k4 b hb) hlt,λb hlt hp hl=>?_⟩
 .obtain⟨cs,cc,ty,q1,q2,q3,q4⟩:=h5.boxes t b hb;exact⟨cs,cc,ty,q1,q2,q3,λj x hx=>let⟨v,a,r⟩:=q4 j x hx;⟨v,a,r.mono k1⟩⟩
 .obtain⟨q1,q2⟩:=h5.apart t b hb;exact⟨λhl=>q1 (k4 b hl),k5 b q2 q1⟩
 .exact k5 b (h8 b hlt hp hl) (λhl2=>hl (h7 b hl2 hlt))
def Sl{d:Nat}{o:Oper}{sz:Nat}{x y:aC}(hs:Sound P comp d (.append sz x y) o):Sound P comp d (.rU sz x y) o:=by
 refine aiV (λfr lo h v lo' h' e=>?_) hs;simp only[aK,lS]at e;cases hq:dN sz x y fr lo h with
 |fail=>rw[hq]at e;cases e
 |ok v1 lo1 h1 =>
  rw[hq]at e;dsimp only at e;cases hf:qo v1 h1 with
  |mk v2 h2 =>
   rw[hf]at e;cases e;exact⟨v1,h1,hq,hf,abz hq⟩
end
section
variable {P:Program}{comp:FuncId->Code->aN}{Hn:Hints}{g g':G}{σ σ':H}{w w':World}{β:Nat->Option Nat}{lo lo':Lo}{fr:List V}{A:Act}
def Ip{α:Type}{a:Array α}{x:α}(h:a.toList=[x]):a=#[x]:=by
 cases a;simp at h;subst h;rfl
def Dy{α:Type}{a:Array α}{x y:α}(h:a.toList=[x,y]):a=#[x,y]:=by
 cases a;simp at h;subst h;rfl
def Xp{d:Nat}{o:Oper}{x:Operand}{ats:Array TypeId}{t el:TypeId}{n:Nat}(ht:ats[0]?=some t)(hu:P.underlying t=some (.array n el))
  (ho:o.op=.call { callee:=.builtin .len,args:=#[x],argTypes:=ats }):Sound P comp d (.mv (.const (.int .i64 n))) o:=by
 intro g β σ lo fr A w v lo' σ' h e;simp only[aK,Qu,aC.ev,OR.ok.injEq]at e;obtain⟨rfl,rfl,rfl⟩:=e;refine .pure h (x:=.int .i64 n) ?_ (.dK (.int _ _));simp only[execOp,ho,resolve,invoke,builtin,aH,Sem.run_pure,Result.andThen];simp[Builtin.len_,ht,aH,run_underlying hu,Result.andThen,goInt]
def ajv(P:Program)(comp:FuncId->Code->aN)(d:Nat)(GK:oM)(o:Oper):Prop :=
 (bM GK=true/\U4 P comp d GK o)\/(bM GK=false/\Sound P comp d GK o)
def sx{d:Nat}{GK:oM}{o:Oper}(h:bM GK=false)(s:Sound P comp d GK o):ajv P comp d GK o:=.inr ⟨h,s⟩
def aiT{f:Nat}{o:Oper}{GK:oM}(h:cOp P Hn f o=some GK):ajv P comp (o.dst.getD 0) GK o:=by
 obtain⟨dst,op,ty,pos,aft,gd⟩:=o;unfold cOp at h;simp only[jc,jR]at h;cases op with
 |move x =>
  simp only[au,aG]at h;obtain⟨y,hy,rfl⟩:=h;exact sx rfl (aaI hy (.inl rfl))
 |assign x =>
  simp only[au,aG]at h;obtain⟨y,hy,rfl⟩:=h;exact sx rfl (aaI hy (.inr rfl))
 |pick c a b =>
  simp only[au,aG]at h;obtain⟨c',hc,a',ha,b',hb,rfl⟩:=h;exact sx rfl (adS hc ha hb rfl)
 |alloc t =>
  simp only[au,aG]at h;obtain⟨z,hz,rfl⟩:=h
  split
  .exact sx rfl (Xm hz rfl)
  .exact .inl ⟨rfl,aaA hz rfl⟩
 |box t x =>
  simp only[au,aG]at h;obtain⟨y,hy,rfl⟩:=h
  split
  .exact sx rfl (adQ hy rfl)
  .exact .inl ⟨rfl,aiS hy rfl⟩
 |build t ps =>
  simp only[au]at h;obtain⟨z,hz,ds,hds,h⟩:=h
  split at h
  .simp only[au,aG]at h;obtain⟨places,hp,vps,hv,rfl⟩:=h;exact sx rfl (MI hz rfl (.inl ⟨_,places,hds,hp,hv⟩))
  .simp only[au,aG]at h;obtain⟨s,hs,vps,hv,rfl⟩:=h;exact sx rfl (MI hz rfl (.inr ⟨_,_,s,hds,hs,hv⟩))
  .cases h
 |buildSlice t n ps =>
  simp only[au]at h;obtain⟨ds,hds,h⟩:=h
  split at h
  .simp only[au]at h;obtain⟨s,hs,z,hz,vps,hv,h⟩:=h
   split at h
   .cases h
   .rename_i hq;simp only[aG]at h;subst h;simp at hq;exact sx rfl (aiW hds hs hz rfl hv (by simpa using hq.1.1) hq.1.2 hq.2)
  .cases h
 |load t a =>
  simp only[au]at h;obtain⟨y,hy,b,hb,h⟩:=h;cases b
  .simp at h;subst h;exact sx rfl (aaF hb hy rfl)
  .simp[au]at h;obtain⟨n,hn,rfl⟩:=h;exact sx rfl (aaG hb hn hy rfl)
 |store t a x =>
  simp only[au,aG]at h;obtain⟨n,hn,a',ha,x',hx,rfl⟩:=h;exact sx rfl (aaK hn ha hx rfl)
 |nilCheck x =>
  simp only[au,aG]at h;obtain⟨y,hy,rfl⟩:=h;exact sx rfl (aaJ hy rfl)
 |binOp b t x y yt =>
  cases b with
  |eql =>
   simp only[au,aG]at h;obtain⟨c,hc,x',hx,y',hy,rfl⟩:=h;exact sx rfl (aaC hx hy hc (by simp) rfl)
  |neq =>
   simp only[au,aG]at h;obtain⟨c,hc,x',hx,y',hy,rfl⟩:=h;exact sx rfl (aaC hx hy hc (by simp) rfl)
  |_ =>
   simp only[au,aG]at h;obtain⟨x',hx,y',hy,rfl⟩:=h;exact sx rfl (aiR hx hy rfl)
 |unOp u t x =>
  cases u with
  |not =>
   simp only[au,aG]at h;obtain⟨y,hy,rfl⟩:=h;exact sx rfl (aiY hy rfl)
  |neg =>
   simp only[au,aG]at h;obtain⟨y,hy,rfl⟩:=h;exact sx rfl (aiX hy rfl)
  |_=>simp at h
 |convert s t x =>
  simp only[au]at h;obtain⟨ds,hds,dt,hdt,h⟩:=h
  split at h
  .simp only[au,aG]at h;obtain⟨y,hy,rfl⟩:=h;exact sx rfl (Sr hds hdt hy rfl)
  .simp only[au,aG]at h;obtain⟨y,hy,rfl⟩:=h;exact sx rfl (aaL hds hdt hy rfl)
  .simp only[au]at h;obtain⟨de,hde,h⟩:=h
   split at h
   .split at h
    .rename_i hst;simp only[au,aG]at h;obtain⟨y,hy,rfl⟩:=h;exact sx rfl (adT hds hdt hde (by simpa using hst) hy rfl)
    .cases h
   .cases h
  .simp only[au]at h;obtain⟨de,hde,h⟩:=h
   split at h
   .simp only[au,aG]at h;obtain⟨y,hy,rfl⟩:=h;exact sx rfl (SB hds hdt hde hy rfl)
   .cases h
  .simp only[au]at h;obtain⟨de,hde,h⟩:=h
   split at h
   .simp only[au,aG]at h;obtain⟨y,hy,rfl⟩:=h;exact sx rfl (aaM hds hde hdt hy rfl)
   .cases h
  .cases h
 |makeInterface t x =>
  simp only[au]at h;obtain⟨ds,hds,h⟩:=h
  split at h
  .cases h
  .rename_i hn;simp only[au,aG]at h;obtain⟨y,hy,rfl⟩:=h;exact sx rfl (SA hds (λms e=>hn ms e) hy rfl)
 |makeFunc fn a b =>
  cases fn with
  |func q =>
   simp only[au,aG]at h;obtain⟨a',ha,b',hb,rfl⟩:=h;exact sx rfl (Xt ha hb rfl)
  |_=>simp at h
 |makeMap t r =>
  cases r with
  |none=>simp at h;subst h;exact sx rfl (aaH rfl)
  |some r=>simp at h
 |makeSlice t l c =>
  simp only[au]at h;obtain⟨ds,hds,h⟩:=h
  split at h
  .simp only[au]at h;obtain⟨s,hs,h⟩:=h
   split at h
   .simp only[au,aG]at h;obtain⟨z,hz,l',hl,c',hc,rfl⟩:=h;exact sx rfl (QW hds hs hz hl hc rfl)
   .simp only[au,aG]at h;obtain⟨z,hz,l',hl,c',hc,rfl⟩:=h;exact sx rfl (G5 hds hs hz hl hc rfl)
  .cases h
 |slice t x l hi m =>
  simp only[au]at h;obtain⟨ds,hds,h⟩:=h
  split at h
  .simp only[au,aG]at h;obtain⟨s,hs,x',hx,l',hl,h',hh,m',hm,rfl⟩:=h;exact sx rfl (MJ hds (.inr ⟨rfl,_,rfl,hs⟩) hx hl hh hm rfl)
  .simp only[au,aG]at h;obtain⟨x',hx,l',hl,h',hh,m',hm,rfl⟩:=h;exact sx rfl (MJ hds (.inl ⟨rfl,rfl⟩) hx hl hh hm rfl)
  .cases h
 |fieldAddr t x i =>
  simp only[au]at h;obtain⟨⟨off,ag,s⟩,hf,h⟩:=h;dsimp only at h
  split at h
  .cases h
  .rename_i hs;simp only[au,aG]at h;obtain⟨y,hy,rfl⟩:=h;exact sx rfl (Ns hf hs hy rfl)
 |field t x i =>
  simp only[au]at h;obtain⟨⟨off,ag,s⟩,hf,h⟩:=h;dsimp only at h;simp only[aG]at h;obtain⟨y,hy,rfl⟩:=h;exact sx rfl (aaD hf hy rfl)
 |indexAddr t x i =>
  simp only[au]at h;obtain⟨ds,hds,h⟩:=h
  split at h
  .simp only[au,aG]at h;obtain⟨s,hs,x',hx,i',hi,rfl⟩:=h;exact sx rfl (Sz hds hs hx hi rfl)
  .simp only[au,aG]at h;obtain⟨s,hs,x',hx,i',hi,rfl⟩:=h;exact sx rfl (Xn hds hs hx hi rfl)
  .cases h
 |index t x i =>
  simp only[au]at h;obtain⟨ds,hds,h⟩:=h
  split at h
  .simp only[au,aG]at h;obtain⟨x',hx,i',hi,rfl⟩:=h;exact sx rfl (aaE hds hx hi rfl)
  .simp only[au,aG]at h;obtain⟨ag,ha,s,hs,x',hx,i',hi,rfl⟩:=h;exact sx rfl (Xo hds ha hs hx hi rfl)
  .cases h
 |lookup t x i ok =>
  simp only[au]at h;obtain⟨ds,hds,h⟩:=h
  split at h
  .simp only[au,aG]at h;obtain⟨kc,hk,z,hz,x',hx,i',hi,rfl⟩:=h;exact sx rfl (Xq hds hk hz hx hi rfl)
  .cases h
 |mapUpdate t m k x =>
  simp only[au]at h;obtain⟨ds,hds,h⟩:=h
  split at h
  .simp only[au,aG]at h;obtain⟨kc,hk,m',hm,k',hk',x',hx,rfl⟩:=h;exact sx rfl (Jw hds hk hm hk' hx (.inl rfl))
  .cases h
 |insert t m k x =>
  simp only[au]at h;obtain⟨ds,hds,h⟩:=h
  split at h
  .simp only[au,aG]at h;obtain⟨kc,hk,m',hm,k',hk',x',hx,rfl⟩:=h;exact sx rfl (Jw hds hk hm hk' hx (.inr rfl))
  .cases h
 |mapEntry t m k =>
  simp only[au]at h;obtain⟨ds,hds,h⟩:=h
  split at h
  .simp only[au,aG]at h;obtain⟨kc,hk,z,hz,m',hm,k',hk',rfl⟩:=h;exact sx rfl (Xr hds hk hz hm hk' rfl)
  .cases h
 |entryStore t m s x =>
  simp only[au,aG]at h;obtain⟨m',hm,s',hs,x',hx,rfl⟩:=h;exact sx rfl (QV hm hs hx rfl)
 |extract x i =>
  simp only[au,aG]at h;obtain⟨x',hx,rfl⟩:=h;exact sx rfl (Sv hx rfl)
 |call c =>
  obtain⟨callee,args,ats⟩:=c;cases callee with
  |builtin b =>
   dsimp only at h
   split at h
   .rename_i x hargs;have:=Ip hargs;subst this;simp only[au]at h;obtain⟨t,ht,ds,hds,h⟩:=h
    split at h
    .simp only[aG]at h;subst h;exact sx rfl (Xp ht hds rfl)
    .simp only[au,aG]at h;obtain⟨x',hx,rfl⟩:=h;exact sx rfl (KY ht hds trivial hx rfl)
    .simp only[au,aG]at h;obtain⟨x',hx,rfl⟩:=h;exact sx rfl (KY ht hds trivial hx rfl)
    .simp only[au,aG]at h;obtain⟨x',hx,rfl⟩:=h;exact sx rfl (KY ht hds trivial hx rfl)
    .cases h
   .rename_i x hargs;have:=Ip hargs;subst this;simp only[au]at h;obtain⟨t,ht,ds,hds,h⟩:=h
    split at h
    .simp only[au,aG]at h;obtain⟨x',hx,rfl⟩:=h;exact sx rfl (aiU ht hds hx rfl)
    .cases h
   .rename_i x y hargs;have:=Dy hargs;subst this;simp only[au,aG]at h;obtain⟨x',hx,y',hy,rfl⟩:=h;exact sx rfl (Jy (b:=true) hx hy rfl)
   .rename_i x y hargs;have:=Dy hargs;subst this;simp only[au,aG]at h;obtain⟨x',hx,y',hy,rfl⟩:=h;exact sx rfl (Jy (b:=false) hx hy rfl)
   .rename_i x y hargs;have:=Dy hargs;subst this;simp only[au]at h;obtain⟨t,ht,ds,hds,h⟩:=h
    split at h
    .simp only[au]at h;obtain⟨s,hs,u,hu,du,hdu,h⟩:=h
     split at h
     .simp only[au,aG]at h;obtain⟨z,hz,x',hx,y',hy,rfl⟩:=h;exact sx rfl (Sm ht hu hds hdu hs hz hx hy rfl)
     .split at h
      .simp only[au,aG]at h;obtain⟨x',hx,y',hy,rfl⟩:=h;exact sx rfl (Sl (Du ht hu hds hdu (by simp) hs hx hy rfl))
      .simp only[au,aG]at h;obtain⟨x',hx,y',hy,rfl⟩:=h;exact sx rfl (Du ht hu hds hdu (by simp) hs hx hy rfl)
     .simp only[au,aG]at h;obtain⟨x',hx,y',hy,rfl⟩:=h;exact sx rfl (Du ht hu hds hdu (by simp) hs hx hy rfl)
     .cases h
    .cases h
   .rename_i x y hargs;have:=Dy hargs;subst this;simp only[au]at h;obtain⟨t,ht,ds,hds,h⟩:=h
    split at h
    .simp only[au,aG]at h;obtain⟨s,hs,x',hx,y',hy,rfl⟩:=h;exact sx rfl (adR ht hds hs hx hy rfl)
    .cases h
   .rename_i x hargs;have:=Ip hargs;subst this;simp only[au]at h;obtain⟨t,ht,ds,hds,h⟩:=h
    split at h
    .simp only[au,aG]at h;obtain⟨s,hs,z,hz,x',hx,rfl⟩:=h;exact sx rfl (aaB ht hds hs hz hx rfl)
    .cases h
   .cases h
  |_=>simp at h
 |_=>simp at h
end
section
variable {P:Program}{Hn:Hints}{g g' g'':G}{σ σ' sJ:H}{w w' w'':World}{β β' β'':Nat->Option Nat}{lo lo':Lo}{fr fr':List V}{A A':Act}{B0:Nat}{ro:Option Nat}
def xJ(P:Program)(Hn:Hints)(g:G)(σ:H)(w:World)(v:V)(σ':H)(x:Value)(w':World):Prop :=
 ∃g',Rv g' v x/\Rw P (aX P Hn) g' σ' w'/\Stp g (λ_=>none) σ w g' (λ_=>none) σ' w'
def Upon(P:Program)(K:Value->World->Prop):Result Next->Prop
 |.ok (.value v) w'=>K v w'
 |.ok (.enter f args) w'=>CallsIn (Fw none) 0 P f args w' λ|.returned v,w''=>K v w''|_,_=>False
 |.ok (.round l f tmps assign body) w'=>RoundIn (Fw none) 0 P l f tmps assign body w' λ|.returned v,w''=>K v w''|_,_=>False
 |_=>False
def Upon.mono{K K':Value->World->Prop}(h:∀v w,K v w->K' v w):∀{r:Result Next},Upon P K r->Upon P K' r:=by
 intro r hr;cases r with
 |halt x w=>exact hr.elim
 |ok x w =>
  cases x with
  |value v=>exact h _ _ hr
  |enter f args=>exact CallsIn.mono hr λe w' he=>by cases e<;>first|exact h _ _ he|exact he.elim
  |round l f t a b=>exact RoundIn.mono hr λe w' he=>by cases e<;>first|exact h _ _ he|exact he.elim
  |_=>exact hr.elim
def aeh(args:List V):Prop:=∃b k c,args=[b,.int k c]/\∀fn x y,b≠.func fn x y
def qm(P:Program)(Hn:Hints)(f:FuncId)(args:List V)(σ:H)(out:Out):Prop :=
 ∀(g:G) (As:Array Value) (w:World) (v:V) (σ':H),lW g args As.toList->Rw P (aX P Hn) g σ w->out=.val v σ' ->
  (((callFunc f As).run P w=.ok (.enter f As) w)/\CallsIn (Fw none) 0 P f As w λ|.returned x,w'=>xJ P Hn g σ w v σ' x w'|_,_=>False) \/
  (aeh args/\∃x w',(callFunc f As).run P w=.ok (.value x) w'/\xJ P Hn g σ w v σ' x w')
def qm.upon{f:FuncId}{args:List V}{out:Out}(h:qm P Hn f args σ out){As:Array Value}{v:V}(ha:lW g args As.toList)(hw:Rw P (aX P Hn) g σ w)(e:out=.val v σ'):Upon P (xJ P Hn g σ w v σ') ((callFunc f As).run P w):=by
 rcases h g As w v σ' ha hw e with⟨h1,h2⟩|⟨_,x,w',h1,h2⟩
 .rw[h1];exact h2
 .rw[h1];exact h2
def SH(P:Program)(Hn:Hints)(fv:V)(args:List V)(σ:H)(out:Out):Prop :=
 ∀(g:G) (X:Value) (As:Array Value) (w:World) (v:V) (σ':H),Rv g fv X->lW g args As.toList->Rw P (aX P Hn) g σ w->out=.val v σ' ->
  ∃d,(∀w,(Deferred.ofValue X As).run P w=.ok d w)/\Upon P (xJ P Hn g σ w v σ') ((invoke d.target d.args).run P w)
def put_defers(a:Act)(d:Option Tmp)(x:Value):(a.put d x).defers=a.defers:=by cases d<;>rfl
def Sc.put(h:Sc P (aX P Hn) B0 g β σ lo fr A w)(d:Option Nat){v:V}{x:Value}(hv:Rs g β v x):Sc P (aX P Hn) B0 g β σ lo (bG fr d v) (A.put d x) w :=
 ⟨⟨h.s.f.bG hv,h.s.b,h.s.w⟩,by rw[put_defers];exact h.d,h.le⟩
def aja(hle:g.le g')(hf:Frm g σ (GU β) w w')(hl:∀b,Live g' σ' b->b<w.heap.size->Live g σ b)(hp:Phi g g' σ w):Stp g β σ w g' β σ' w' :=
 ⟨hle,hf,hl,λt b hb _=>⟨t,hb⟩,hp⟩
def afs{o:Oper}{GK:oM}{d:Nat}{v:V}{Q:Exit->Act->World->Prop}{K:Act->World->Prop}(hd:∀c,o.op≠.defer c)(hs:Sound P (aX P Hn) d GK o)(h:Sc P (aX P Hn) B0 g β σ lo fr A w)(e:aK d GK fr lo σ=.ok v lo' σ')
  (hK:∀g' x w',Sc P (aX P Hn) B0 g' β σ' lo' (bG fr o.dst v) (A.put o.dst x) w'->Stp g β σ w g' β σ' w'->K (A.put o.dst x) w'):o.wpIn (Fw ro) 0 P A w K Q:=by
 refine⟨λ_ _=>trivial,?_⟩;have hse:(o.semAt (Fw ro).round A.eval)=execOp A.eval o:=Oper.semAt_eq _ _ _ hd;rw[hse];obtain⟨x,w',g',hr,hle,hv,hw,hb,hf,hl,hp⟩:=hs g β σ lo fr A w v lo' σ' h.s e;have hst:=aja hle hf hl hp;have hsc:Sc P (aX P Hn) B0 g' β σ' lo' (bG fr o.dst v) (A.put o.dst x) w' :=
  ⟨⟨(h.s.f.mono hle).bG hv,hb,hw⟩,by rw[put_defers];exact h.step hst rfl,lM h.le hst.qg.size⟩
 rcases hr with hr|⟨hr,rfl⟩
 .rw[hr];exact hK g' x w' hsc hst
 .rw[hr];exact hK g' _ w' hsc hst
def Stp.P9(h:Sc P (aX P Hn) B0 g β σ lo fr A w)(d:Nat)(ob:Go.Obj):Stp g β σ w g (λt=>if t=d then some w.heap.size else β t) σ (w.alloc ob) where
 le:=.refl g
 qg:=Frm.alloc _ _
 live _ hb _:=hb
 box t b hb hlt:=by
  by_cases ht:t=d
  .simp[ht]at hb;omega
  .simp[ht]at hb;exact⟨t,hb⟩
 phi _ _ hp _:=hp
def amO{o:Oper}{GK:oM}{d:Nat}{v:V}{Q:Exit->Act->World->Prop}{K:Act->World->Prop}(hdst:o.dst=some d)(hd:∀c,o.op≠.defer c)(hs:U4 P (aX P Hn) d GK o)(h:Sc P (aX P Hn) B0 g β σ lo fr A w)(e:aK d GK fr lo σ=.ok v lo' σ')
  (hK:∀β' x w',Sc P (aX P Hn) B0 g β' σ' lo' (lC (fJ d fr) d v) (A.put o.dst x) w'->Stp g β σ w g β' σ' w'->K (A.put o.dst x) w'):o.wpIn (Fw ro) 0 P A w K Q:=by
 refine⟨λ_ _=>trivial,?_⟩;have hse:(o.semAt (Fw ro).round A.eval)=execOp A.eval o:=Oper.semAt_eq _ _ _ hd;rw[hse];obtain⟨C,ty,hr,rfl,rfl,cs,rfl,hc⟩:=hs g β σ lo fr A w v lo' σ' h.s e;rw[hr];have hst:=Stp.P9 h d (.cells C ty (0,0));refine hK _ _ _ ⟨?_,?_,lM h.le hst.qg.size⟩ hst
 .have:=h.s.P9 d ty hc;rw[hdst];exact this
 .rw[put_defers];exact h.step hst rfl
def ajV{n:Nat}{f:FuncId}{args:Array Value}{R:Ending->World->Prop}(h:CallsIn (Fw none) n P f args w R):CallsIn (Fw ro) n P f args w R:=h
def anE{n:Nat}{l:Nat}{f:FuncId}{t:Array Value}{a b:Code}{R:Ending->World->Prop}(h:RoundIn (Fw none) n P l f t a b w R):RoundIn (Fw ro) n P l f t a b w R:=h
def SY{o:Oper}{v:V}{Q:Exit->Act->World->Prop}{K:Act->World->Prop}(hd:∀c,o.op≠.defer c)(h:Sc P (aX P Hn) B0 g β σ lo fr A w)(hu:Upon P (xJ P Hn g σ w v σ') ((execOp A.eval o).run P w))
  (hK:∀g' x w',Sc P (aX P Hn) B0 g' β σ' lo (bG fr o.dst v) (A.put o.dst x) w'->Stp g β σ w g' β σ' w'->K (A.put o.dst x) w'):o.wpIn (Fw ro) 0 P A w K Q:=by
 refine⟨λ_ _=>trivial,?_⟩;have hse:(o.semAt (Fw ro).round A.eval)=execOp A.eval o:=Oper.semAt_eq _ _ _ hd;rw[hse];have key:∀x w',xJ P Hn g σ w v σ' x w'->K (A.put o.dst x) w':=by
  rintro x w' ⟨g',hv,hw,hs⟩
  obtain⟨hsc,hst⟩:=h.call hw hs;exact hK g' x w' (hsc.put o.dst (.dK hv)) hst
 have hu':=Upon.mono key hu;generalize (execOp A.eval o).run P w=r at hu';cases r with
 |halt x w=>exact hu'.elim
 |ok x w1 =>
  cases x with
  |value v=>exact hu'
  |enter f args=>exact⟨λhh=>by simp[Fw]at hh,CallsIn.mono (ajV hu') λe w' he=>by cases e<;>first|exact he|exact he.elim⟩
  |round l f t a b=>exact⟨λhh=>by simp[Fw]at hh,RoundIn.mono (anE hu') λe w' he=>by cases e<;>first|exact he|exact he.elim⟩
  |_=>exact hu'.elim
def Di(ops:Array Oper):Bool:=ops.all λo=>match o.op with|.defer _=>false|_=>true
def ajt(P:Program)(Hn:Hints)(l:List Ins)(fr:List V)(lo:Lo)(σ:H)(out:Out):Prop :=
 ∀(f:FuncId) (ops:Array Oper) (idx:Nat) (ro:Option Nat) (B0:Nat) (g:G) (β:Nat->Option Nat) (A:Act) (w:World),l=(ops.toList.drop idx).map (ig P Hn f ops)->(ro.isSome=true->Di ops=true) ->
  Sc P (aX P Hn) B0 g β σ lo fr A w->out≠.fail->wpOpsIn (Fw ro) 0 P ops (kV P (aX P Hn) B0 g β σ w out) (List.range' idx (ops.size-idx)) A w
def agf{ops:Array Oper}{out:Out}{l:List Nat}{Q':Exit->Act->World->Prop}(hs:Stp g β σ w g' β' σ' w')(h:wpOpsIn (Fw ro) 0 P ops (kV P (aX P Hn) B0 g' β' σ' w' out) l A' w')
  (hq:Q'=kV P (aX P Hn) B0 g β σ w out):wpOpsIn (Fw ro) 0 P ops Q' l A' w':=by
 subst hq;have:∀(l:List Nat) (a:Act) (v:World),wpOpsIn (Fw ro) 0 P ops (kV P (aX P Hn) B0 g' β' σ' w' out) l a v->wpOpsIn (Fw ro) 0 P ops (kV P (aX P Hn) B0 g β σ w out) l a v:=by
  intro l
  induction l with
  |nil=>intro a v h;exact h.after hs
  |cons i l ih =>
   intro a v h;simp only[wpOpsIn]at h|-;cases ho:ops[i]? with
   |none=>rw[ho]at h;exact ih _ _ h
   |some o =>
    rw[ho]at h;dsimp only at h|-
    split
    .rename_i hw;rw[if_pos hw]at h;refine⟨h.1,?_⟩;have h2:=h.2;generalize (o.semAt (Fw ro).round a.eval).run P v=r at h2;cases r with
     |halt x w =>
      cases x<;>simp only[Oper.uponIn]at h2|-;exact h2.after hs
     |ok x w =>
      cases x<;>simp only[Oper.uponIn]at h2|-
      case value v=>exact ih _ _ h2
      case skip=>exact ih _ _ h2
      case defer d=>exact ih _ _ h2
      case enter f args =>
       refine⟨h2.1,CallsIn.mono h2.2 λe w' he=>?_⟩;cases e with
       |returned v=>exact ih _ _ he
       |panicked c=>exact he.after hs
       |outgrown=>obtain⟨a₀,w₀,hq⟩:=he;exact⟨a₀,w₀,hq.after hs⟩
      case row r args=>exact⟨h2.1,RowsIn.mono h2.2 λv w' he=>ih _ _ he⟩
      case round l f t a b =>
       refine⟨h2.1,RoundIn.mono h2.2 λe w' he=>?_⟩;cases e with
       |returned v=>exact ih _ _ he
       |panicked c=>exact he.after hs
       |outgrown=>obtain⟨a₀,w₀,hq⟩:=he;exact⟨a₀,w₀,hq.after hs⟩
    .rename_i hw;rw[if_neg hw]at h;exact⟨h.1,ih _ _ h.2⟩
 exact this l A' w' h
end
section
variable {P:Program}{Hn:Hints}{g g' g'':G}{σ σ' sJ:H}{w w' w'':World}{β β' β'':Nat->Option Nat}{lo lo':Lo}{fr fr':List V}{A A':Act}{B0:Nat}{ro:Option Nat}
def X5{f:Nat}{o:Oper}{GK:oM}(h:cOp P Hn f o=some GK):∀c,o.op≠.defer c:=by
 intro c hc;unfold cOp at h;rw[hc]at h;cases h
def Y4:∀{ids:List Nat} {n:Nat},uz n ids=true->n∈ids
 |[],_,h=>by cases h
 |x::xs,n,h=>by
  simp only[uz,gQ]at h;rcases h with h|h
  .have:=aP h;subst this;simp
  .exact bW _ (Y4 h)
def sG(A:Act)(d:Option Tmp)(x:Value):∀t:Nat,d≠some t->(A.put d x).tmps[t]?=A.tmps[t]?:=by
 intro t h;cases d with
 |none=>rfl
 |some d =>
  have:d≠t:=λe=>h (by rw[e]);simp[Act.put,Array.getElem?_setIfInBounds_ne this]
def Iw{ih:Ih}{os:List Ins}{H2:Hints}{f:FuncId}{o:Oper}{Q:Exit->Act->World->Prop}{K:Act->World->Prop}
  (hcall:∀f args σ,qm P Hn f args σ (ih (.call f args) [] [] σ)) (happ:∀fv args σ,SH P Hn fv args σ (ih (.app fv args) [] [] σ)) (hidle:∀q∈H2.idle,A8 P q) (hloc:∀t k args σ,ih (.app (.aY t k) args) [] [] σ=.fail)
  (hro:ro.isSome=true->∀c,o.op≠.defer c) (h:Sc P (aX P Hn) B0 g β σ lo fr A w) (hne:vV ih os ((yG P H2 f o).getD (.op none .bad)) fr lo σ≠.fail)
  (hK:∀g' β' σ' lo' fr' A' w',Sc P (aX P Hn) B0 g' β' σ' lo' fr' A' w'->Stp g β σ w g' β' σ' w'->(∀t:Nat,o.dst≠some t->A'.tmps[t]?=A.tmps[t]?)->ih (.ops os) fr' lo' σ'=vV ih os ((yG P H2 f o).getD (.op none .bad)) fr lo σ->K A' w'):o.wpIn (Fw ro) 0 P A w K Q:=by
 cases hc:yG P H2 f o with
 |none =>
  rw[hc]at hne;exact absurd rfl hne
 |some i0 =>
  rw[hc]at hne hK;simp only[rJ]at hne hK;have plain:∀GK,cOp P H2 f o=some GK->i0=.op o.dst GK->o.wpIn (Fw ro) 0 P A w K Q:=by
   intro GK hv hi;subst hi;have hd:=X5 hv;rcases aiT (comp:=aX P Hn) hv with⟨ha,hs⟩|⟨ha,hs⟩
   .cases hdst:o.dst with
    |none=>rw[hdst]at hne;simp only[vV,ha,cond_true]at hne;exact absurd rfl hne
    |some t =>
     rw[hdst]at hne hK hs;simp only[vV,ha,cond_true,rJ]at hne hK hs;cases he:aK t GK fr lo σ with
     |fail=>rw[he]at hne;exact absurd rfl hne
     |ok v lo1 σ1 =>
      rw[he]at hK;exact amO hdst hd hs h he fun β' x w' hsc hst=>hK _ _ _ _ _ _ _ hsc hst (λu hu=>sG A o.dst x u (by rw[hdst];exact hu)) rfl
   .cases hdst:o.dst with
    |none =>
     rw[hdst]at hne hK hs;simp only[vV,ha,cond_false,Option.getD_none]at hne hK hs;cases he:aK 0 GK fr lo σ with
     |fail=>rw[he]at hne;exact absurd rfl hne
     |ok v lo1 σ1 =>
      rw[he]at hK;exact afs hd hs h he λg' x w' hsc hst=>hK _ _ _ _ _ _ _ hsc hst (λu hu=>sG A o.dst x u (by rw[hdst];exact hu)) (by rw[hdst];rfl)
    |some t =>
     rw[hdst]at hne hK hs;simp only[vV,ha,cond_false,rJ]at hne hK hs;cases he:aK t GK fr lo σ with
     |fail=>rw[he]at hne;exact absurd rfl hne
     |ok v lo1 σ1 =>
      rw[he]at hK;exact afs hd hs h he λg' x w' hsc hst=>hK _ _ _ _ _ _ _ hsc hst (λu hu=>sG A o.dst x u (by rw[hdst];exact hu)) (by rw[hdst];rfl)
  unfold yG at hc
  split at hc
  .rename_i q args ats hop;simp only[jc,jR,au,aG]at hc;obtain⟨args',ha,rfl⟩:=hc;simp only[vV]at hne hK;generalize hl:iV (aC.evs args' fr)=l at hne hK;cases l with
   |true=>exact absurd rfl hne
   |false =>
   simp only[cond_false]at hne hK;have RD:=lW.evs h.s.f ha hl;cases ho:ih (.call q (aC.evs args' fr)) [] [] σ with
   |val v σ1 =>
    rw[ho]at hK;have hco:=(hcall q (aC.evs args' fr) σ).upon (As:=args.map A.eval) (by simpa using RD) h.s.w ho;refine SY (λc hc=>by rw[hop]at hc;cases hc) h (v:=v) (σ':=σ1) ?_ λg' x w' hsc hst=>hK _ _ _ _ _ _ _ hsc hst (sG _ _ _) rfl;have:(execOp A.eval o).run P w=(callFunc q (args.map A.eval)).run P w:=by
     simp only[execOp,hop,resolve,Act.eval,Deferred.ofValue,aH,Sem.run_pure,Result.andThen,invoke];simp
    rw[this];exact hco
   |fail=>rw[ho]at hne;exact absurd rfl hne
   |norm _ _ _=>rw[ho]at hne;exact absurd rfl hne
   |jump _ _ _ _=>rw[ho]at hne;exact absurd rfl hne
  .rename_i c args ats hnf hop;simp only[jc,jR,au,aG]at hc;obtain⟨c',hcc,args',ha,rfl⟩:=hc;simp only[vV]at hne hK;generalize hl:iV (aC.evs args' fr)=l at hne hK;cases l with
   |true=>exact absurd rfl hne
   |false =>
   simp only[cond_false]at hne hK;have RD:=lW.evs h.s.f ha hl;have hrc:=Rs.ev h.s.f hcc;cases ho:ih (.app (c'.ev fr) (aC.evs args' fr)) [] [] σ with
   |val v σ1 =>
    rw[ho]at hK;have hcv:Rv g (c'.ev fr) (A.eval c)\/∃t k,c'.ev fr=.aY t k:=by
     generalize c'.ev fr=z at hrc;cases z<;>first|exact .inr ⟨_,_,rfl⟩|exact .inl hrc
    rcases hcv with hcv|⟨t,k,hcv⟩
    .obtain⟨d,hd1,hd2⟩:=happ (c'.ev fr) (aC.evs args' fr) σ g (A.eval c) (args.map A.eval) w v σ1 hcv (by simpa using RD) h.s.w ho;refine SY (λc hc=>by rw[hop]at hc;cases hc) h (v:=v) (σ':=σ1) ?_ λg' x w' hsc hst=>hK _ _ _ _ _ _ _ hsc hst (sG _ _ _) rfl;have:(execOp A.eval o).run P w=(invoke d.target d.args).run P w:=by
      simp only[execOp,hop,resolve,aH,hd1,Result.andThen]
     rw[this];exact hd2
    .rw[hcv]at ho;rw[hloc]at ho;cases ho
   |fail=>rw[ho]at hne;exact absurd rfl hne
   |norm _ _ _=>rw[ho]at hne;exact absurd rfl hne
   |jump _ _ _ _=>rw[ho]at hne;exact absurd rfl hne
  .rename_i c args ats hop
   split at hc
   .cases hc
   rename_i hdn;have hdn:o.dst=none:=by cases hq:o.dst with|none=>rfl|some t=>rw[hq]at hdn;simp at hdn
   simp only[jc,jR,au,aG]at hc;obtain⟨c',hcc,args',ha,rfl⟩:=hc;have hrn:ro=none:=by
    cases ro with
    |none=>rfl
    |some l=>exact absurd hop (hro rfl _)
   subst hrn;have hrc:=Rs.ev h.s.f hcc;simp only[vV]at hne hK;generalize hq:IZ H2.idle (c'.ev fr)=q at hne hK;cases q
   .exact absurd rfl hne
   simp only[cond_true]at hne hK;have:∃q first caps,c'.ev fr=.func (.func q) first caps/\q∈H2.idle:=by
    generalize c'.ev fr=z at hq;cases z<;>try (cases hq;done)
    rename_i fn first caps;cases fn<;>try (cases hq;done)
    exact⟨_,_,_,rfl,Y4 hq⟩
   obtain⟨q,first,caps,hz,hmem⟩:=this;rw[hz]at hrc;have aCt:∃F C,A.eval c=.func (.func q) F C:=by
    generalize A.eval c=X at hrc;cases hrc with
    |func hf _ _ _ _=>cases hf;exact⟨_,_,rfl⟩
   obtain⟨F,C,hX⟩:=aCt;refine⟨λ_ _=>trivial,?_⟩;have hse:(o.semAt (Fw none).round A.eval)=execOp A.eval o:=rfl;rw[hse];have hex:(execOp A.eval o).run P w=.ok (.defer { target:=.fn (.func q) C,args:=F++args.map A.eval }) w:=by
    simp[execOp,hop,resolve,hX,Deferred.ofValue]
   rw[hex];refine hK g β σ lo fr _ _ ?_ .refl (sG _ _ _) rfl;rw[hdn];exact⟨⟨h.s.f,h.s.b,h.s.w⟩,⟨.inr ⟨q,C,rfl,hidle q hmem⟩,h.d⟩,h.le⟩
  .rename_i aGe aGf hnd;simp only[jc,jR,au,aG]at hc;obtain⟨GK,hv,rfl⟩:=hc;exact plain GK hv rfl
end
section
variable {P:Program}{Hn:Hints}{g g' g'':G}{σ σ' sJ:H}{w w' w'':World}{β β' β'':Nat->Option Nat}{lo lo':Lo}{fr fr':List V}{A A':Act}{B0:Nat}{ro:Option Nat}
def Nb{ops:Array Oper}{j t:Nat}(h:Ap g β fr A.tmps)(hd:(ops[j]?).bind (·.dst)=some t){v:V}(hv:aA fr t=v)(hu:v≠.undef) :
  ∃X,A.tmps[t]?=some X/\Rs g β v X/\yielded ops A.tmps j=(match(some X:Option Value)with|some (.bool b)=>some b|_=>none):=by
 have hs:=h.aA t;rw[hv]at hs;have ht:t<fr.length:=by
  rw[tY]at hv;cases hf:fr[t]? with
  |none=>rw[hf]at hv;simp at hv;exact absurd hv.symm hu
  |some x=>exact(fB.1 hf).1
 have ht':t<A.tmps.size:=by rw[<- h.size];exact ht
 have hx:A.tmps[t]?=some (A.tmps.getD t undef):=by simp[Array.getD,ht']
 refine⟨_,hx,hs,?_⟩;unfold yielded;rw[hd,Option.bind_some,hx];generalize A.tmps.getD t undef=X;cases X<;>rfl
def JL{ops:Array Oper}{j t:Nat}(h:Ap g β fr A.tmps)(hd:(ops[j]?).bind (·.dst)=some t){c:Bool}(hv:aA fr t=.bool c):yielded ops A.tmps j=some c:=by
 obtain⟨X,_,h2,h3⟩:=Nb h hd hv (by simp);cases h2;rw[h3]
def JM{ops:Array Oper}{j t:Nat}(h:Ap g β fr A.tmps)(hd:(ops[j]?).bind (·.dst)=some t)(hv:aA fr t=.tuple []):yielded ops A.tmps j=none:=by
 obtain⟨X,_,h2,h3⟩:=Nb h hd hv (by simp);cases h2 with
 |tuple _ _=>rw[h3]
def amR{ih:Ih}(hops:∀l fr lo σ,ajt P Hn l fr lo σ (ih (.ops l) fr lo σ))(hcall:∀f args σ,qm P Hn f args σ (ih (.call f args) [] [] σ))(happ:∀fv args σ,SH P Hn fv args σ (ih (.app fv args) [] [] σ))
  (hidle:∀q∈Hn.idle,A8 P q) (hloc:∀t k args σ,ih (.app (.aY t k) args) [] [] σ=.fail) (l:List Ins) (fr:List V) (lo:Lo) (σ:H):ajt P Hn l fr lo σ (aZ ih l fr lo σ):=by
 intro f ops idx ro B0 g β A w hl hro h hne;cases l with
 |nil =>
  have hd:ops.toList.drop idx=[]:=by
   cases hq:ops.toList.drop idx with
   |nil=>rfl
   |cons a b=>rw[hq]at hl;simp at hl
  have hle:ops.size<=idx:=by simpa using hd
  have hz:ops.size-idx=0:=by omega
  rw[hz];exact Gp h
 |cons i os =>
  cases hd:ops.toList.drop idx with
  |nil=>rw[hd]at hl;simp at hl
  |cons o rest =>
  rw[hd]at hl;simp only[bD,gu]at hl;obtain⟨rfl,rfl⟩:=hl;have hlt:idx<ops.size:=by
   have:(ops.toList.drop idx).length≠0:=by rw[hd];simp
   simp at this;omega
  have ho:ops[idx]?=some o:=by
   have:(ops.toList.drop idx)[0]?=some o:=by rw[hd];rfl
   simpa using this
  have hrest:rest.map (ig P Hn f ops)=(ops.toList.drop (idx+1)).map (ig P Hn f ops):=by
   have:ops.toList.drop (idx+1)=rest:=by rw[<- List.drop_drop,hd];simp
   rw[this]
  have hrange:List.range' idx (ops.size-idx)=idx::List.range' (idx+1) (ops.size-(idx+1)):=by
   have:ops.size-idx=(ops.size-(idx+1))+1:=by omega
   rw[this,List.range'_succ]
  rw[hrange];have hdef:ro.isSome=true->∀c,o.op≠.defer c:=by
   intro hr c hc;have hnd:=hro hr;simp only[Di,Array.all_eq_true]at hnd;have:=hnd idx hlt;have ho':ops[idx]=o:=by rw[rH hlt]at ho;exact gZ ho
   rw[ho',hc]at this;cases this
  have cont:∀{out:Out} {g' β' σ' lo' fr' A' w'},Sc P (aX P Hn) B0 g' β' σ' lo' fr' A' w'->Stp g β σ w g' β' σ' w'->ih (.ops (rest.map (ig P Hn f ops))) fr' lo' σ'=out->out≠.fail ->
    wpOpsIn (Fw ro) 0 P ops (kV P (aX P Hn) B0 g β σ w out) (List.range' (idx+1) (ops.size-(idx+1))) A' w':=by
   intro out g' β' σ' lo' fr' A' w' hsc hst he hout;subst he;exact agf hst (hops _ _ _ _ f ops (idx+1) ro B0 g' β' A' w' hrest hro hsc hout) rfl
  simp only[aZ]at hne|-;simp only[wpOpsIn,ho];cases hg:o.guard with
  |none =>
   have hw:Region.wanted o (yielded ops A.tmps)=true:=by simp[Region.wanted,hg]
   rw[if_pos hw];have hi:ig P Hn f ops o=(yG P Hn f o).getD (.op none .bad):=by simp[ig,hg]
   rw[hi]at hne|-;have hst:∀i:Ins,(∀t b d j,i≠.grd t b d j)->kT ih (rest.map (ig P Hn f ops)) i=vV ih (rest.map (ig P Hn f ops)) i:=by
    intro i hi;cases i<;>first|rfl|exact absurd rfl (hi _ _ _ _)
   have hng:∀t b d j,(yG P Hn f o).getD (.op none .bad)≠.grd t b d j:=by
    intro t b d j e;cases hc:yG P Hn f o with
    |none=>rw[hc]at e;cases e
    |some i0 =>
     rw[hc]at e;simp only[rJ]at e;subst e;unfold yG at hc
     split at hc<;>simp[au]at hc
   rw[hst _ hng]at hne|-;exact Iw hcall happ hidle hloc hdef h hne λg' β' σ' lo' fr' A' w' hsc hst _ he=>cont hsc hst he hne
  |some q =>
   obtain⟨j,b⟩:=q;cases hd:(ops[j]?).bind (·.dst)with
   |none =>
    have hi:ig P Hn f ops o=.op none .bad:=by simp[ig,hg,hd]
    rw[hi]at hne;exact absurd rfl hne
   |some t =>
   have hi:ig P Hn f ops o=.grd t b o.dst ((yG P Hn f o).getD (.op none .bad)):=by simp[ig,hg,hd]
   rw[hi]at hne|-;simp only[kT,wE]at hne|-;generalize hv:aA fr t=v at hne|-;have skip:Region.wanted o (yielded ops A.tmps)=false->ih (.ops (rest.map (ig P Hn f ops))) (bG fr o.dst (.tuple [])) lo σ≠.fail ->
     (if Region.wanted o (yielded ops A.tmps)=true then o.wpIn (Fw ro) 0 P A w (wpOpsIn (Fw ro) 0 P ops (kV P (aX P Hn) B0 g β σ w (ih (.ops (rest.map (ig P Hn f ops))) (bG fr o.dst (.tuple [])) lo σ)) (List.range' (idx+1) (ops.size-(idx+1)))) (kV P (aX P Hn) B0 g β σ w (ih (.ops (rest.map (ig P Hn f ops))) (bG fr o.dst (.tuple [])) lo σ))
      else(∀f,o.about P w A.eval=some f->(Fw ro).fn f)/\wpOpsIn (Fw ro) 0 P ops (kV P (aX P Hn) B0 g β σ w (ih (.ops (rest.map (ig P Hn f ops))) (bG fr o.dst (.tuple [])) lo σ)) (List.range' (idx+1) (ops.size-(idx+1))) (A.put o.dst undef) w):=by
    intro hw hout;rw[if_neg (by rw[hw];simp)];exact⟨λ_ _=>trivial,cont (h.put o.dst (.dK (.mkTuple (A:=#[]) (.nil g)))) .refl rfl hout⟩
   cases v with
   |bool c =>
    have hy:=JL h.s.f hd hv;dsimp only at hne|-;by_cases hcb:c=b
    .subst hcb;have hw:Region.wanted o (yielded ops A.tmps)=true:=by simp[Region.wanted,hg,hy]
     have hcc:(bif c then c else !c)=true:=by cases c<;>rfl
     rw[hcc]at hne|-;simp only[cond_true]at hne|-;rw[if_pos hw];exact Iw hcall happ hidle hloc hdef h hne λg' β' σ' lo' fr' A' w' hsc hst _ he=>cont hsc hst he hne
    .have hw:Region.wanted o (yielded ops A.tmps)=false:=by simp[Region.wanted,hg,hy,hcb]
     have hcc:(bif b then c else !c)=false:=by
      cases c<;>cases b<;>first|rfl|exact absurd rfl hcb
     rw[hcc]at hne|-;simp only[cond_false]at hne|-;exact skip hw hne
   |tuple vs =>
    cases vs with
    |cons a b=>exact absurd rfl hne
    |nil =>
     have hy:=JM h.s.f hd hv;dsimp only at hne|-;have hw:Region.wanted o (yielded ops A.tmps)=false:=by simp[Region.wanted,hg,hy]
     exact skip hw hne
   |_=>exact absurd rfl hne
end
section
variable {P:Program}{Hn:Hints}{comp:FuncId->Code->aN}{g g' g'':G}{σ σ' sJ:H}{w w' w'':World}{β β' β'':Nat->Option Nat}{lo lo':Lo}{fr fr':List V}{A A':Act}{B0:Nat}{ro:Option Nat}
def ac7(hb:Rb g σ β lo w)(hw:Rw P comp g σ w){v:V}{X:Value}{cs:List V}{ty:TypeId}{ag:Bool}{sz:Nat}{u:V}(hr:Rs g β v X)(hc:aF v lo σ=some cs)(ha:JW P ty=some ag)(hn:lY P ty=some sz)(hm:mk ag (takeN sz cs)=some u) :
  ∃z,(do loadVar ty (<- asAddr X):Sem Value).run P w=.ok z w/\Rv g u z:=by
 obtain⟨b,off,hX,hcell⟩:=Hr hb hw hr hc;obtain⟨r,hr,hcase⟩:=afb hm;obtain⟨hlen,hr2⟩:=pK hr;subst hX;rcases hcase with⟨rfl,rfl⟩|⟨rfl,rfl⟩
 .have hcell':∀j,j<sz->∃z,w.cell? ⟨b,off+j,none⟩=some z/\∀c,cs[j]?=some c->Rv g c z:=by
   intro j hj;obtain⟨z,hz,CV⟩:=hcell j cs[j] (bV (by omega));exact⟨z,hz,λc hc'=>by rw[bV (by omega)]at hc';cases hc';exact CV⟩
  have alx:∃f:Nat->Value,∀j,j<sz->w.cell? ⟨b,off+j,none⟩=some (f j)/\∀c,cs[j]?=some c->Rv g c (f j):=by
   refine⟨λj=>if hj:j<sz then(hcell' j hj).choose else undef,λj hj=>?_⟩;simp only[hj,dif_pos];exact(hcell' j hj).choose_spec
  obtain⟨f,hf⟩:=alx;have hrun:=run_loadCells (P:=P) w ⟨b,off,none⟩ sz f (λj hj=>by rw[oh];exact(hf j hj).1);refine⟨.agg ((List.range sz).map f).toArray,?_,.Qg ?_⟩
  .simp only[asAddr,aH,Sem.run_pure,Result.andThen,loadVar,yZ ha,if_true,jl hn,hrun]
  .subst hr2;refine⟨by simp;omega,λj c z hc' hz=>?_⟩;simp[jd]at hc';obtain⟨hj,hc'⟩:=hc';have:(List.range sz)[j]?=some j:=by simp[hj]
   simp[this]at hz;subst hz;exact(hf j hj).2 c hc'
 .have hcs:cs[0]?=some u:=by
   have:(cs.take sz)[0]?=some u:=by rw[<- hr2];rfl
   rw[jd]at this
   split at this
   .exact this
   .cases this
  obtain⟨z,hz,CV⟩:=hcell 0 u hcs;have hz':w.cell? ⟨b,off,none⟩=some z:=hz;refine⟨z,?_,CV⟩;simp only[asAddr,aH,Sem.run_pure,Result.andThen,loadVar,yZ ha];simp[hz']
def anI{α γ:Type}(f:α->Sem γ):∀(l:List α) (xs:List γ),l.length=xs.length->(∀(i:Nat) a x,l[i]?=some a->xs[i]?=some x->(f a).run P w=.ok x w)->(l.mapM f).run P w=.ok xs w:=by
 intro l
 induction l with
 |nil=>intro xs h _;cases xs with|nil=>simp|cons _ _=>simp at h
 |cons a l ih =>
  intro xs h hh;cases xs with
  |nil=>simp at h
  |cons x xs =>
   have h1:=hh 0 a x rfl rfl;have h2:=ih xs (by simpa using h) (λi b y hb hy=>hh (i+1) b y (by simpa using hb) (by simpa using hy));simp[List.mapM_cons,h1,h2,Result.andThen]
def asl(h:St P comp g β σ lo fr A w):∀(rs:List ResultVar) (cr:List (Nat×Bool×Bool×Nat)) (vs:List V),rs.mapM (agm P)=some cr->resV fr lo σ cr=some vs ->
  ∃xs:List Value,lW g vs xs/\rs.length=xs.length/\∀(i:Nat) r x,rs[i]?=some r->xs[i]?=some x ->
   (match r with|.tmp t=>(pure (A.tmps.getD t undef):Sem Value)|.cell a t=>do loadVar t (<- asAddr (A.tmps.getD a undef))).run P w=.ok x w:=by
 intro rs
 induction rs with
 |nil =>
  intro cr vs hc hv;simp at hc;subst hc;simp[resV]at hv;subst hv;exact⟨[],.nil g,rfl,λi r x hr=>by simp at hr⟩
 |cons r rs ih =>
  intro cr vs hc hv;simp only[List.mapM_cons,jc,jR,au,aG]at hc;obtain⟨c,hcr,cs,hcs,rfl⟩:=hc;obtain⟨t,isC,ag,sz⟩:=c;simp only[resV]at hv;generalize hu:(bif isC then(match aF (aA fr t) lo σ with|some cs=>mk ag (takeN sz cs)|none=>none)else some (aA fr t))=u at hv;cases u with
  |none=>cases hv
  |some u =>
  dsimp only at hv;generalize hl:bK u=l at hv;cases l
  .simp only[cond_false]at hv;cases hrest:resV fr lo σ cs with
   |none=>rw[hrest]at hv;cases hv
   |some us =>
   rw[hrest]at hv;simp only[aG]at hv;subst hv;obtain⟨xs,h1,h2,h3⟩:=ih cs us hcs hrest;have key:∃x,Rv g u x/\(match r with|.tmp t=>(pure (A.tmps.getD t undef):Sem Value)|.cell a t=>do loadVar t (<- asAddr (A.tmps.getD a undef))).run P w=.ok x w:=by
    cases r with
    |tmp t' =>
     simp only[agm,aG,Prod.mk.injEq]at hcr;obtain⟨rfl,rfl,rfl,rfl⟩:=hcr;simp at hu;have hr:=h.f.aA t';rw[hu]at hr;exact⟨_,hr.rv (by intro a b e;subst e;simp[bK]at hl),by simp⟩
    |cell a ty =>
     simp only[agm,jc,jR,au,aG,Prod.mk.injEq]at hcr;obtain⟨ag',hag,sz',hsz,rfl,rfl,rfl,rfl⟩:=hcr;simp only[cond_true]at hu;cases hcl:aF (aA fr a) lo σ with
     |none=>rw[hcl]at hu;cases hu
     |some cl =>
      rw[hcl]at hu;obtain⟨z,hz,CV⟩:=ac7 h.b h.w (h.f.aA a) hcl hag hsz hu;exact⟨z,CV,hz⟩
   obtain⟨x,hx,hrun⟩:=key;refine⟨x::xs,.cons hx h1,by simp[h2],λi r' x' hr' hx'=>?_⟩;cases i with
   |zero=>simp at hr' hx';subst hr' hx';exact hrun
   |succ i=>exact h3 i r' x' (by simpa using hr') (by simpa using hx')
  .cases hv
def aoj{vs:List V}{xs:List Value}(h:lW g vs xs):Rv g (dI vs) (if hh:xs.toArray.size=1 then xs.toArray[0]else .tuple xs.toArray):=by
 cases vs with
 |nil =>
  have:=h.Rl;subst this;simp[dI];exact .mkTuple (A:=#[]) (.nil g)
 |cons v vs =>
  obtain⟨x,ys,rfl,hx,hs⟩:=h.Dz;cases vs with
  |nil =>
   have:=hs.Rl;subst this;simpa[dI]using hx
  |cons v2 vs =>
   obtain⟨x2,zs,rfl,hx2,hs2⟩:=hs.Dz;have:¬((x::x2::zs).toArray.size=1):=by simp
   rw[dif_neg this];exact .mkTuple (by simpa[dI]using h)
def aiF{α:Type}{m:Sem (List α)}{xs:List α}(h:m.run P w=.ok xs w):(Functor.map List.toArray m).run P w=.ok xs.toArray w:=by
 simp[h,Result.andThen]
def QJ(h:St P comp g β σ lo fr A w){fn:Func}{cr:List (Nat×Bool×Bool×Nat)}{vs:List V}(hc:fn.results.toList.mapM (agm P)=some cr)(hv:resV fr lo σ cr=some vs):∃x,(results fn A.tmps).run P w=.ok x w/\Rv g (dI vs) x:=by
 obtain⟨xs,h1,h2,h3⟩:=asl h _ cr vs hc hv;have hm:=anI (P:=P) (w:=w) (λr:ResultVar=>match r with|.tmp t=>(pure (A.tmps.getD t undef):Sem Value)|.cell a t=>do loadVar t (<- asAddr (A.tmps.getD a undef))) fn.results.toList xs h2 h3;refine⟨_,?_,aoj h1⟩;have h4:=aiF hm;unfold results;rw[aH,Array.mapM_eq_mapM_toList];refine(congrArg (λr=>Result.andThen r _) h4).trans ?_;rfl
end
section
variable {P:Program}{Hn:Hints}{comp:FuncId->Code->aN}{g g' g'':G}{σ σ' sJ:H}{w w' w'':World}{β β' β'':Nat->Option Nat}{lo lo':Lo}{fr fr':List V}{A A':Act}{B0:Nat}{ro:Option Nat}
def St.afl(h:St P comp g β σ lo fr A w)(hs:w.heap.size<=w'.heap.size)(hb:∀(k:Nat),(∀x,w.heap[k]?≠some (Go.Obj.deferred x))->k<w.heap.size->w'.heap[k]?=w.heap[k]?):St P comp g β σ lo fr A w':=by
 have hcell:∀(k:Nat) (c:Array Value) ty fz,w.heap[k]?=some (.cells c ty fz)->w'.heap[k]?=w.heap[k]?:=λk c ty fz e =>
  hb k (λx hx=>by rw[e]at hx;cases hx) (eY.1 e).1
 refine⟨h.f,h.b.same (.refl g) (λ_ hl _=>hl) (λ_ _ hp _ o=>hp o) (λt b e=>?_),?_⟩
 .obtain⟨cs,c,ty,_,h5,_⟩:=h.b.boxes t b e;exact hcell b c ty _ h5
 .refine⟨λb o v e=>?_,λi ob e=>?_,h.w.inj,h.w.fresh,λi b n e=>jQ (h.w.bound i b n e) hs⟩
  .have hf:=h.w.frozen b o v e;have:w'.heap[b]?=w.heap[b]?:=by
    cases hq:w.heap[b]? with
    |none=>simp[World.cell?,hq]at hf
    |some q =>
     rw[<- hq];refine hb b (λx hx=>?_) (eY.1 hq).1;rw[hx]at hq;cases hq;simp[World.cell?,hx]at hf
   exact(cell_of_block (a:=⟨b,o,none⟩) this).trans hf
  .obtain⟨b,n,r,k,f⟩:=h.w.objs i ob e;refine⟨b,n,r,k.mono (.refl g) (hb b (λx hx=>?_) k.lt),f⟩;exact(h.nobody hx).1 ⟨i,n,by simp[e],r⟩
def Df.shut{r:Nat}:∀{ds:List Deferred},(∀d'∈ds,d'.target≠.collected r)->Df P B0 w ds->Df P B0 (w.putObj r (.deferred none)) ds
 |[],_,_=>trivial
 |d::ds,hk,h=>by
  refine⟨?_,Df.shut (λd' hd=>hk d' (bW _ hd)) h.2⟩;rcases h.1 with⟨r',h0,h1,h2,h3⟩|h1
  .refine .inl ⟨r',h0,h1,?_,h3⟩;have hne:r'≠r:=by intro e;subst e;exact hk d (by simp) h1
   rw[World.putObj_heap_other hne];exact h2
  .exact .inr h1
def TL{fn:Func}{R:Ending->World->Prop}:∀(ds:List Deferred) (w:World),Df P B0 w ds->St P comp g β σ lo fr A w ->
  (∀w',St P comp g β σ lo fr A w'->w'.heap.size=w.heap.size->w'.os=w.os->w'.tape=w.tape->w'.output=w.output->(∀k,k<B0->w'.heap[k]?=w.heap[k]?)->∃v,(results fn A.tmps).run P w'=.ok v w'/\R (.returned v) w') ->
  LeavesInM (Fw none) 0 P fn A.tmps R ds .returning w:=by
 intro ds
 induction ds with
 |nil=>intro w _ h hfin;exact hfin w h rfl rfl rfl rfl (λ_ _=>rfl)
 |cons d ds ih =>
  intro w hd h hfin;refine⟨by simp,?_⟩;rcases hd.1 with⟨r,h0,h1,h2,h3⟩|⟨f,cap,h1,h2⟩
  .refine .inl ⟨r,_,h1,run_takeDeferred h2,?_⟩;have hoth:∀k,k≠r->(w.putObj r (.deferred none)).heap[k]?=w.heap[k]?:=λk hk=>World.putObj_heap_other hk;refine ih _ (Df.shut h3 hd.2) (h.afl (by simp) (λk hk _=>hoth k (by intro e;subst e;exact hk _ h2))) (λw' hs' hz ho ht hu hb=>hfin w' hs' (by rw[hz];simp) ho ht hu (λk hk=>?_));rw[hb k hk,hoth k (by omega)]
  .refine .inr ⟨λhh=>by simp[Fw]at hh,.func f,cap,f,d.args++cap,h1,by rw[h1];exact h2.enters _ _,λ_ _=>trivial,?_⟩;refine CallsDIn.mono (h2.calls (d.args++cap) w) λe u' w' he=>?_;obtain⟨⟨v,rfl⟩,rfl,hh,ho,ht,hu⟩:=he;refine ih w' (Df.keep (λr x _=>by rw[hh]) hd.2) (h.afl (by rw[hh];exact aJ _) (λk _ _=>by rw[hh])) (λw'' hs' hz ho' ht' hu' hb=>hfin w'' hs' (by rw[hz,hh]) (ho'.trans ho) (ht'.trans ht) (hu'.trans hu) (λk hk=>?_));rw[hb k hk,hh]
def Ia(n:Nat):∀xs:List V,(pad n xs).length=max n xs.length:=by
 induction n with
 |zero=>intro xs;simp[pad]
 |succ n ih =>
  intro xs;cases xs with
  |nil=>simp[pad,ih]
  |cons x xs=>simp[pad,ih]
def afw(n:Nat):∀(xs:List V) (i:Nat) (v:V),(pad n xs)[i]?=some v->xs[i]?=some v\/(xs.length<=i/\v=.undef):=by
 induction n with
 |zero=>intro xs i v h;exact .inl (by simpa[pad]using h)
 |succ n ih =>
  intro xs i v h;cases xs with
  |nil =>
   cases i with
   |zero=>simp[pad]at h;exact .inr ⟨by simp,h.symm⟩
   |succ i =>
    simp[pad]at h;rcases ih [] i v h with h|h
    .simp at h
    .exact .inr ⟨by simp,h.2⟩
  |cons x xs =>
   cases i with
   |zero=>simp[pad]at h;exact .inl (by simp[h])
   |succ i =>
    simp[pad]at h;rcases ih xs i v h with h|h
    .exact .inl (by simpa using h)
    .exact .inr ⟨by simp;omega,h.2⟩
def YT{args:List V}{As:Array Value}(h:lW g args As.toList)(nt:Nat):Ap g (λ_=>none) (pad nt args) (As++Array.replicate (nt-As.size) undef):=by
 have hl:args.length=As.size:=by simpa using h.1
 refine⟨by rw[Ia];simp;omega,λt v x hv hx=>?_⟩;rcases afw nt args t v hv with hv|⟨_,rfl⟩
 .have ht:t<As.size:=by rw[<- hl];exact(fB.1 hv).1
  rw[Array.getElem?_append_left ht]at hx;exact .dK (h.2 t v x hv (by simpa using hx))
 .exact .dK (.undef _)
end
section
variable {P:Program}{Hn:Hints}{comp:FuncId->Code->aN}{g g' g'':G}{σ σ' sJ:H}{w w' w'':World}{β β' β'':Nat->Option Nat}{lo lo':Lo}{fr fr':List V}{A A':Act}{B0:Nat}{ro:Option Nat}
def Lr(P:Program)(Hn:Hints)(f:FuncId)(vf:bF):Prop :=
 ∀(args:List V) (σ:H) (g:G) (As:Array Value) (w:World) (v:V) (σ':H),lW g args As.toList->Rw P (aX P Hn) g σ w->ext vf.ext args σ=.val v σ'->∃x w',(callFunc f As).run P w=.ok (.value x) w'/\xJ P Hn g σ w v σ' x w'
def vT{f:FuncId}{fn:Func}{c:Code}(hf:P.funcs[f]?=some fn)(hb:fn.body=some c)(hn:fn.name≠ "runtime.NumGoroutine")(As:Array Value)(w:World):(callFunc f As).run P w=.ok (.enter f As) w:=by
 simp[callFunc,program,Sem.run,hf,hb,hn,Result.andThen]
def abV{n:Nat}{args:List V}{v:V}(e:ext n args σ=.val v σ'):aeh args:=by
 unfold ext at e
 split at e
 .rename_i b c;refine⟨b,_,_,rfl,λfn x y hb=>?_⟩;subst hb;cases hq:Nat.blt c 256<;>simp[hq,bytesIn]at e
 .exact⟨_,_,_,rfl,by simp⟩
 .rename_i b c;refine⟨b,_,_,rfl,λfn x y hb=>?_⟩;subst hb;cases hq:Nat.blt c 256<;>simp[hq,bytesIn]at e
 .cases e
def apN{ih:Ih}{fns:Nat->Option bF}(Y0:∀f vf,fns f=some vf->OA P Hn f=some vf)(hext:∀f vf,fns f=some vf->vf.ext≠0->Lr P Hn f vf)
  (hcode:∀vc fr lo σ,Og P (aX P Hn) vc fr lo σ (ih (.code vc) fr lo σ)) (f:FuncId) (args:List V) (σ:H):qm P Hn f args σ (yj fns ih f args σ):=by
 intro g As w v σ' hargs hw e;unfold yj at e;cases hf:fns f with
 |none=>rw[hf]at e;cases e
 |some vf =>
 rw[hf]at e;dsimp only at e;cases hx:vf.ext with
 |succ k =>
  have hb:Nat.beq vf.ext 0=false:=by rw[hx];rfl
  rw[hb]at e;simp only[cond_false]at e;exact .inr ⟨abV e,hext f vf hf (by omega) args σ g As w v σ' hargs hw e⟩
 |zero =>
  have hb:Nat.beq vf.ext 0=true:=by rw[hx];rfl
  rw[hb]at e;simp only[cond_true]at e;have hc:=Y0 f vf hf;unfold OA at hc;simp only[jc,jR,au]at hc;obtain⟨fn,hfn,hc⟩:=hc
  split at hc
  .cases hc
  rename_i hname;simp only[au]at hc;obtain⟨res,hres,hc⟩:=hc;cases hbody:fn.body with
  |none =>
   rw[hbody]at hc;simp only[aG]at hc;subst hc;exfalso;simp only[at1]at hx
   repeat' split at hx
   all_goals omega
  |some c =>
  rw[hbody]at hc;simp only[aG]at hc;subst hc;dsimp only at e;refine .inl ⟨vT hfn hbody (by simpa using hname) As w,?_⟩;refine callsIn_of_wp_marks hfn hbody trivial ?_;have hsc:Sc P (aX P Hn) w.heap.size g (λ_=>none) σ [] (pad fn.ntmps args) { tmps:=As++Array.replicate (fn.ntmps-As.size) undef,defers:=[] } w :=
   ⟨⟨YT hargs _,⟨λt b e=>(by cases e),λt b e=>(by cases e),λt u b e=>(by cases e)⟩,hw⟩,trivial,aJ _⟩
  have hne:ih (.code (aX P Hn f c)) (pad fn.ntmps args) [] σ≠.fail:=by
   intro ay3;rw[ay3]at e;cases e
  refine wpIn_mono (hcode (aX P Hn f c) (pad fn.ntmps args) [] σ f c none w.heap.size g (λ_=>none) _ w rfl (λh=>by cases h) hsc hne) λex A' w' hp=>?_;obtain⟨mP,lo1,σ1,hout,g1,β1,hs1,hst⟩:=hp;have hleave:leave { nt:=fn.ntmps,results:=res,ext:=0,body:=aX P Hn f c,qo:=Hn.fr f } mP lo1 σ1=.val v σ'->LeavesInM (Fw none) 0 P fn A'.tmps (λ|.returned v_1,w''=>xJ P Hn g σ w v σ' v_1 w''|_,_=>False) A'.defers .returning w':=by
   intro hl;refine TL (B0:=w.heap.size) (g:=g1) (β:=β1) (σ:=σ1) (lo:=lo1) (fr:=mP) (A:=A') (comp:=aX P Hn) A'.defers w' hs1.d hs1.s λw2 hs2 hz ho ht hu hb2=>?_;unfold leave finish at hl;cases hv:resV mP lo1 σ1 res with
   |none=>rw[hv]at hl;cases hl
   |some vs =>
   rw[hv]at hl;dsimp only at hl;obtain⟨x,hx,hxr⟩:=QJ hs2 hres hv;refine⟨x,hx,?_⟩;have aAy:∀(g2:G) (σ2:H),g1.le g2->(∀b,Live g2 σ2 b->Live g1 σ1 b)->(∀b,(∀o,g1.φ b o=none)->¬Live g1 σ1 b->∀o,g2.φ b o=none)->Stp g (λ_=>none) σ w g2 (λ_=>none) σ2 w2:=by
    intro g2 σ2 h1 h2 h3;refine⟨hst.le.trans h1,⟨ho.trans hst.qg.os,ht.trans hst.qg.tape,hu.trans hst.qg.output,by rw[hz];exact hst.qg.size,λk hk hl hb hp=>?_⟩,λb hb hlt=>hst.live b (h2 b hb) hlt,λt b hb _=>(by cases hb),λb hlt hp hl o=>?_⟩
    .rw[hb2 k hk];exact hst.qg.block k hk hl hb hp
    .exact h3 b (hst.phi b hlt hp hl) (λhx=>hl (hst.live b hx hlt)) o
   cases hfz:Hn.fr f with
   |false =>
    rw[hfz]at hl;simp only[cond_false,Out.val.injEq]at hl;obtain⟨rfl,rfl⟩:=hl;exact⟨g1,hxr,hs2.w,aAy g1 σ1 (.refl _) (λ_ h=>h) (λ_ h _=>h)⟩
   |true =>
    rw[hfz]at hl;simp only[cond_true]at hl;cases hq:qo (dI vs) σ1 with
    |mk v2 σ2 =>
     rw[hq]at hl;simp only[Out.val.injEq]at hl;obtain⟨rfl,rfl⟩:=hl;obtain⟨g2,k1,k2,k3,k4,k5⟩:=VG hxr hs2.w hq;exact⟨g2,k2,k3,aAy g2 σ2 k1 k4 k5⟩
  rcases hout with⟨ho,rfl⟩|⟨j,ho,rfl⟩
  .rw[ho]at e;exact hleave e
  .rw[ho]at e;cases j with
   |ret=>exact hleave e
   |exit i=>cases e
   |goto l=>cases e
end
section
variable {P:Program}{Hn:Hints}{comp:FuncId->Code->aN}{g g' g'':G}{σ σ' sJ:H}{w w' w'':World}{β β' β'':Nat->Option Nat}{lo lo':Lo}{fr fr':List V}{A A':Act}{B0:Nat}{ro:Option Nat}
def oZ{h:H}{i:Nat}{l:Ee}(e:getLoop h i=some l):h.get i=some (.loop l):=by
 unfold getLoop at e;cases hg:h.get i with
 |none=>simp[hg]at e
 |some o=>cases o<;>simp[hg]at e;subst e;rfl
def I8:Jump->Code
 |.ret=>.ret
 |.exit i=>.exit i
 |.goto i=>.goto i
def Rw.NQ(h:Rw P comp g σ w){i:Nat}{l:Ee}(e:getLoop σ i=some l):∃b n L,g.ρ i=some (b,n)/\w.heap[b]?=some (.loop L)/\(L.state=match l.st with|0=>.ready|1=>.busy|2=>.done|_=>.exhausted) /\
  (L.pending=l.pending.map I8)/\lW g l.fr L.tmps.toList/\L.params.toList=l.params/\(∃f,comp f L.assign=l.assign/\comp f L.body=l.body/\flat L.assign=true/\flat L.body=true)/\(∀o,g.φ b o=none)/\Live g σ b:=by
 obtain⟨b,n,hr,ho,hf⟩:=h.objs i _ (oZ e);obtain⟨L,h1,h2,h3,h4,h5,h6⟩:=ho;refine⟨b,n,L,hr,h1,h2,?_,h4,h5,h6,hf,⟨i,n,by simp[oZ e],hr⟩⟩;rw[h3];cases l.pending with
 |none=>rfl
 |some j=>cases j<;>rfl
def Rw.asy(h:Rw P comp g σ w){i b n:Nat}{l l':Ee}{L L':Loop}(e:getLoop σ i=some l)(hr:g.ρ i=some (b,n))(hL:w.heap[b]?=some (.loop L))
  (h1:L'.state=match l'.st with|0=>.ready|1=>.busy|2=>.done|_=>.exhausted) (h2:L'.pending=l'.pending.map I8) (h3:l'.fr=l.fr/\l'.params=l.params/\l'.assign=l.assign/\l'.body=l.body)
  (h4:L'.tmps=L.tmps/\L'.params=L.params/\L'.assign=L.assign/\L'.body=L.body):Rw P comp g (σ.set i (.loop l')) (w.putObj b (.loop L'))/\∀k,Live g (σ.set i (.loop l')) k->Live g σ k:=by
 have hlt:b<w.heap.size:=(eY.1 hL).1;obtain⟨b',n',hr',ho,hf⟩:=h.objs i _ (oZ e);obtain⟨rfl,rfl⟩:=Prod.mk.inj (gZ (hr'.symm.trans hr));obtain⟨L0,k1,k2,k3,k4,k5,k6⟩:=ho;rw[hL]at k1;cases k1;refine⟨h.put (by simp[oZ e]) hr' (by simp) (λk hk=>World.putObj_heap_other hk) ⟨L',World.putObj_heap_same hlt,h1,?_,?_,?_,?_⟩,?_⟩
 .rw[h2];cases l'.pending with
  |none=>rfl
  |some j=>cases j<;>rfl
 .rw[h3.1,h4.1];exact k4
 .rw[h4.2.1,h3.2.1];exact k5
 .rw[h4.2.2.1,h4.2.2.2,h3.2.2.1,h3.2.2.2];exact k6
 .rintro k ⟨j,m,hj,hk⟩
  rw[H.qG]at hj;by_cases e1:i=j
  .subst e1;exact⟨i,m,by simp[oZ e],hk⟩
  .simp[e1]at hj;exact⟨j,m,hj,hk⟩
def anN:∀{ps:List Nat} {args fr fr':List V} {As:List Value} {T:Array Value},xW ps args fr=some fr'->lW g args As->lW g fr T.toList->As.length=ps.length/\lW g fr' ((ps.zip As).foldl (λtmps p=>tmps.setIfInBounds p.1 p.2) T).toList:=by
 intro ps
 induction ps with
 |nil =>
  intro args fr fr' As T h ha hf;cases args with
  |nil=>simp[xW]at h;subst h;have:=ha.Rl;subst this;exact⟨rfl,by simpa using hf⟩
  |cons _ _=>simp[xW]at h
 |cons p ps ih =>
  intro args fr fr' As T h ha hf;cases args with
  |nil=>simp[xW]at h
  |cons v vs =>
   obtain⟨x,xs,rfl,hx,hs⟩:=ha.Dz;simp only[xW]at h;have hset:lW g (lC fr p v) (T.setIfInBounds p x).toList:=by
    refine⟨by rw[iP];simpa using hf.1,λi a y ha hy=>?_⟩;rw[Jd]at ha;simp only[qc,rD]at hy;have hl:fr.length=T.size:=by simpa using hf.1
    by_cases e:p=i
    .subst e;by_cases hp:p<fr.length
     .have hp':p<T.size:=by omega
      simp[hp]at ha;simp[hp']at hy;subst ha hy;exact hx
     .have:fr[p]?=none:=gU (by omega);simp[hp]at ha
    .simp[e]at ha hy;exact hf.2 i a y ha (by simpa using hy)
   obtain⟨h1,h2⟩:=ih h hs hset;exact⟨by simp[h1],by simpa using h2⟩
def ak6{vs:List V}{T:Array Value}(h:lW g vs T.toList):Ap g (λ_=>none) vs T :=
 ⟨by simpa using h.1,λt v x hv hx=>.dK (h.2 t v x hv (by simpa using hx))⟩
def Sc.fresh{vs:List V}{T:Array Value}(h:lW g vs T.toList)(hw:Rw P comp g σ w):Sc P comp w.heap.size g (λ_=>none) σ [] vs { tmps:=T,defers:=[] } w :=
 ⟨⟨ak6 h,⟨λt b e=>(by cases e),λt b e=>(by cases e),λt u b e=>(by cases e)⟩,hw⟩,trivial,aJ _⟩
def Stp.drop(h:Stp g (λ_=>none) σ w g' β' σ' w'):Stp g (λ_=>none) σ w g' (λ_=>none) σ' w':=⟨h.le,h.qg,h.live,λt b hb _=>(by cases hb),h.phi⟩
end
section
variable {P:Program}{Hn:Hints}{comp:FuncId->Code->aN}{g g' g'':G}{σ σ' sJ:H}{w w' w'':World}{β β' β'':Nat->Option Nat}{lo lo':Lo}{fr fr':List V}{A A':Act}{B0:Nat}{ro:Option Nat}
def Sc.loop(h:Sc P comp B0 g β σ lo fr A w){i b n:Nat}{l l':Ee}{L L':Loop}(e:getLoop σ i=some l)(hr:g.ρ i=some (b,n))(hL:w.heap[b]?=some (.loop L))
  (h1:L'.state=match l'.st with|0=>.ready|1=>.busy|2=>.done|_=>.exhausted) (h2:L'.pending=l'.pending.map I8) (h3:l'.fr=l.fr/\l'.params=l.params/\l'.assign=l.assign/\l'.body=l.body)
  (h4:L'.tmps=L.tmps/\L'.params=L.params/\L'.assign=L.assign/\L'.body=L.body):Sc P comp B0 g β (σ.set i (.loop l')) lo fr A (w.putObj b (.loop L'))/\Stp g β σ w g β (σ.set i (.loop l')) (w.putObj b (.loop L')):=by
 obtain⟨hw,hlv⟩:=h.s.w.asy e hr hL h1 h2 h3 h4;have hlive:Live g σ b:=⟨i,n,by simp[oZ e],hr⟩;have hoth:∀k,k≠b->(w.putObj b (.loop L')).heap[k]?=w.heap[k]?:=λk hk=>World.putObj_heap_other hk;have hst:Stp g β σ w g β (σ.set i (.loop l')) (w.putObj b (.loop L')) :=
  ⟨.refl g,⟨rfl,rfl,rfl,by simp,λk _ hk _ _=>hoth k (by intro e';subst e';exact hk hlive)⟩,λk hk _=>hlv k hk,λt k hk _=>⟨t,hk⟩,λ_ _ hp _=>hp⟩
 exact⟨⟨⟨h.s.f,h.s.b.same (.refl g) (λk hk _=>hlv k hk) (λ_ _ hp _ o=>hp o) (λt k e'=>hoth k (by intro e'';subst e'';exact(h.s.b.apart t k e').1 hlive)),hw⟩,h.step hst rfl,by simpa using h.le⟩,hst⟩
def aAx(j:Option Jump):Nat:=match j with|none=>0|some _=>2
def anD{ih:Ih}(hcode:∀vc fr lo σ,Og P (aX P Hn) vc fr lo σ (ih (.code vc) fr lo σ)){l:Nat}{args:List V}{As:Array Value}{v:V}{b n:Nat}(ha:lW g args As.toList)(hw:Rw P (aX P Hn) g σ w)(hr:g.ρ l=some (b,n))
  (e:xG ih l args σ=.val v σ'):Upon P (xJ P Hn g σ w v σ') ((Instr.yield b As).run P w):=by
 unfold xG at e;cases hg:getLoop σ l with
 |none=>rw[hg]at e;cases e
 |some lp =>
 rw[hg]at e;dsimp only at e;generalize hq:Nat.beq lp.st 0=q at e;cases q
 .cases e
 simp only[cond_true]at e;cases hp:xW lp.params args lp.fr with
 |none=>rw[hp]at e;cases e
 |some mP =>
 rw[hp]at e;dsimp only at e;obtain⟨b',n',L,k1,k2,k3,k4,k5,k6,⟨f,k7,k8,k9,k10⟩,k11,k12⟩:=hw.NQ hg;obtain⟨rfl,rfl⟩:=Prod.mk.inj (gZ (k1.symm.trans hr));rw[<- k6]at hp;obtain⟨s1,s2⟩:=anN hp ha k5;have hsz:As.size=L.params.size:=by simpa using s1
 rw[run_yield k2 hsz];have hfold:(L.params.zip As).foldl (λtmps (t,a)=>tmps.setIfInBounds t a) L.tmps=(L.params.toList.zip As.toList).foldl (λtmps p=>tmps.setIfInBounds p.1 p.2) L.tmps:=by
  rw[<- Array.foldl_toList,Array.toList_zip]
 refine roundIn_of_wpIn (F:=Fw none) trivial ?_;have hsc:=Sc.fresh (P:=P) (comp:=aX P Hn) s2 hw;rw[<- hfold]at hsc;cases ho:ih (.code lp.assign) mP [] σ with
 |fail=>rw[ho]at e;cases e
 |val _ _=>rw[ho]at e;cases e
 |jump _ _ _ _=>rw[ho]at e;cases e
 |norm aB lo2 σ2 =>
 rw[ho]at e;have hwp:=hcode lp.assign mP [] σ f L.assign (some b') w.heap.size g (λ_=>none) _ w k7 (λ_=>k9) hsc (by rw[ho];simp);rw[ho]at hwp;refine wpIn_mono hwp λex a1 w1 hpost=>?_;obtain⟨AX,lo3,σ3,hout,g1,β1,hs1,hst1⟩:=hpost;have azj:Out.norm aB lo2 σ2=Out.norm AX lo3 σ3/\ex=.normal:=by
  rcases hout with h|⟨j,h,_⟩
  .exact h
  .cases h
 clear hout;obtain⟨hout,rfl⟩:=azj;simp only[Out.norm.injEq]at hout;obtain⟨rfl,rfl,rfl⟩:=hout;simp only[Exit.then];unfold H6 at e;dsimp only at e;cases hg2:getLoop σ2 l with
 |none=>rw[hg2]at e;cases e
 |some lp2 =>
 rw[hg2]at e;dsimp only at e;generalize hq2:Nat.beq lp2.st 0=q2 at e;cases q2
 .cases e
 simp only[cond_true]at e;have aCx:=aP hq2;obtain⟨b2,n2,L2,j1,j2,j3,j4,j5,j6,j7,j8,j9⟩:=hs1.s.w.NQ hg2;have hr1:=hst1.le.ρ l _ hr;obtain⟨rfl,rfl⟩:=Prod.mk.inj (gZ (j1.symm.trans hr1));have av3:L2.state=.ready:=by rw[j3,aCx];rfl
 refine⟨_,run_beginRound j2 av3,?_⟩;obtain⟨hs2,hst2⟩:=hs1.loop (l':=⟨1,lp2.pending,lp2.fr,lp2.params,lp2.assign,lp2.body⟩) (L':={ L2 with state:=.busy }) hg2 j1 j2 rfl j4 ⟨rfl,rfl,rfl,rfl⟩ ⟨rfl,rfl,rfl,rfl⟩;have hne:ih (.code lp.body) aB lo2 (setSt l 1 lp2.pending lp2 σ2)≠.fail:=by
  intro hf;rw[hf]at e;cases e
 have hbody:=hcode lp.body aB lo2 (setSt l 1 lp2.pending lp2 σ2) f L.body (some b2) w.heap.size g1 β1 a1 _ k8 (λ_=>k10) hs2 hne;refine wpIn_mono hbody λex a3 w3 hpost=>?_;obtain⟨J9,NP,σ4,hout,g3,β3,hs3,hst3⟩:=hpost;have hstp:=(hst1.trans hst2).trans hst3;have fin:∀(j:Option Jump) (lp4:Ee),getLoop σ4 l=some lp4->v=.bool j.isNone->σ'=setSt l (aAx j) j lp4 σ4 ->
   ∃x w',(Instr.endRound b2 (j.map I8)).run P w3=.ok x w'/\xJ P Hn g σ w v σ' x w':=by
  intro j lp4 hg4 hv hσ;obtain⟨b4,n4,L4,m1,m2,m3,m4,m5,m6,m7,m8,m9⟩:=hs3.s.w.NQ hg4;have hr3:=hstp.le.ρ l _ hr;obtain⟨rfl,rfl⟩:=Prod.mk.inj (gZ (m1.symm.trans hr3));obtain⟨hs5,hst5⟩:=hs3.loop (l':=⟨aAx j,j,lp4.fr,lp4.params,lp4.assign,lp4.body⟩) (L':={ L4 with state:=if(j.map I8).isNone then .ready else .done,pending:=j.map I8 }) hg4 m1 m2 (by cases j<;>rfl) rfl ⟨rfl,rfl,rfl,rfl⟩ ⟨rfl,rfl,rfl,rfl⟩;refine⟨_,_,run_endRound (j.map I8) m2,g3,?_,?_,?_⟩
  .rw[hv];have:(j.map I8).isNone=j.isNone:=by cases j<;>rfl
   rw[this];exact .bool _
  .rw[hσ];exact hs5.s.w
  .rw[hσ];exact(hstp.trans hst5).drop
 rcases hout with⟨hout,rfl⟩|⟨j,hout,rfl⟩
 .rw[hout]at e;simp only[yI]at e;cases hg4:getLoop σ4 l with
  |none=>rw[hg4]at e;cases e
  |some lp4 =>
   rw[hg4]at e;simp only[Out.val.injEq]at e;exact fin none lp4 hg4 e.1.symm e.2.symm
 .rw[hout]at e;simp only[yI]at e;cases hg4:getLoop σ4 l with
  |none=>rw[hg4]at e;cases e
  |some lp4 =>
   rw[hg4]at e;simp only[Out.val.injEq]at e;have:=fin (some j) lp4 hg4 e.1.symm e.2.symm;cases j<;>exact this
def ajF{ih:Ih}(hcall:∀f args σ,qm P Hn f args σ (ih (.call f args) [] [] σ))(hcode:∀vc fr lo σ,Og P (aX P Hn) vc fr lo σ (ih (.code vc) fr lo σ))(fv:V)(args:List V)(σ:H):SH P Hn fv args σ (MN ih fv args [] [] σ):=by
 intro g X As w v σ' hf ha hw e;cases fv<;>try (cases e;done)
 rename_i fn first caps;cases hf with
 |@func _ fn' _ _ F C hfn h1 h2 h3 h4 =>
 have hF:lW g first F.toList:=⟨by simpa using h1,λi v w a b=>h3 i v w a (by simpa using b)⟩;have hC:lW g caps C.toList:=⟨by simpa using h2,λi v w a b=>h4 i v w a (by simpa using b)⟩;refine⟨{ target:=.fn fn' C,args:=F++As },λw=>by simp[Deferred.ofValue],?_⟩;cases hfn with
 |func q =>
  have e':ih (.call q (first++(args++caps))) [] [] σ=.val v σ':=e;have hall:lW g (first++(args++caps)) ((F++As)++C).toList:=by
   simpa using hF.append (ha.append hC)
  exact(hcall q (first++(args++caps)) σ).upon hall hw e'
 |@yield i b n hρ =>
  cases first with
  |cons a b=>cases e
  |nil =>
   have hF0:F=#[]:=by
    have:F.size=0:=by simpa using h1.symm
    exact Array.eq_empty_of_size_eq_zero this
   subst hF0;have e':xG ih i args σ=.val v σ':=e;have:=anD hcode ha hw hρ e';simpa[invoke]using this
end
section
variable {P:Program}{Hn:Hints}{w w' w'':World}
def strip{I:Machine->Prop}{m m₁ m₂:Machine}(h:StepsIn I P m m₂)(hs:Go.step P m=.next m₁)(hne:m≠m₂):StepsIn I P m₁ m₂:=by
 cases h with
 |refl=>exact absurd rfl hne
 |head hI hs' h' =>
  rw[hs]at hs';cases hs';exact h'
def aa4(m:Machine):Option (FrameMode×List Item):=(m.gs[0]?).map λg=>(g.frame.mode,g.frame.todo)
def vX(fr:Frame)(cs:List Frame)(w:World):aa4 (lone fr cs w)=some (fr.mode,fr.todo):=by simp[aa4,lone]
def uQ{m m':Machine}(h:aa4 m≠aa4 m'):m≠m':=λe=>h (by rw[e])
def abU{id:Nat}:∀{k k':List Item},exitTo id k=some k'->k'.length<=k.length:=by
 intro k
 induction k with
 |nil=>intro k' h;simp[exitTo]at h
 |cons x k ih =>
  intro k' h;cases x<;>simp only[exitTo]at h<;>try exact Nat.le_succ_of_le (ih h)
  split at h
  .cases h;simp
  .exact Nat.le_succ_of_le (ih h)
def J8{c:Code}:∀{d r:Code} {l:Nat},Go.findLabel d l=some r->r≠.loop c:=by
 intro d
 induction d with
 |seq a b iha ihb =>
  intro r l h;simp only[Go.findLabel]at h;cases ha:Go.findLabel a l with
  |some r'=>rw[ha]at h;cases h;simp
  |none=>rw[ha]at h;exact ihb h
 |label l'=>intro r l h;simp[Go.findLabel]at h;rw[<- h.2];simp
 |_=>intro r l h;simp[Go.findLabel]at h
def RQ{c:Code}{l:Nat}:∀{k k' q:List Item},gotoIn l k=some k'->k'≠.code (.loop c)::q:=by
 intro k
 induction k with
 |nil=>intro k' q h;simp[gotoIn]at h
 |cons x k ih =>
  intro k' q h;cases x<;>simp only[gotoIn]at h<;>try exact ih h
  split at h
  .rename_i r hr;cases h;intro e;simp at e;exact J8 hr e.1
  .exact ih h
def xB{F:Fence}{n:Nat}{c:Code}{Q:Exit->Act->World->Prop}{a:Act}(hQ:∀a w,¬Q .outgrown a w)(h:c.wpIn F n P (Exit.then ((Code.loop c).wpIn F n P Q) Q) a w):(Code.loop c).wpIn F n P Q a w:=by
 intro b k cs hro hb hr;obtain⟨e,a₁,w₁,hq,harr⟩:=h b (.inLoop c::k) cs hro hb hr;have h0:StepsIn (Machine.fenced P F) P (lone (b.atR a (.code (.loop c)::k)) cs w) (lone (b.atR a (.code c::.inLoop c::k)) cs w):=.one (fenced_calm hb hr rfl) stepR_loop;cases e with
 |normal =>
  obtain⟨e₂,a₂,w₂,hq₂,harr₂⟩:=hq b k cs hro hb hr;have hin:StepsIn (Machine.fenced P F) P (lone (b.atR a₁ (.inLoop c::k)) cs w₁) (lone (b.atR a₁ (.code c::.inLoop c::k)) cs w₁):=.one (fenced_calm hb hr rfl) stepR_inLoop;have pre:=(StepsIn.trans h0 harr).trans hin;have hstep:Go.step P (lone (b.atR a₁ (.code (.loop c)::k)) cs w₁)=.next (lone (b.atR a₁ (.code c::.inLoop c::k)) cs w₁):=stepR_loop;refine⟨e₂,a₂,w₂,hq₂,.of_steps pre ?_⟩;have ht:aa4 (lone (b.atR a₁ (.code (.loop c)::k)) cs w₁)=some (.run,.code (.loop c)::k):=by rw[vX];rfl
  cases e₂ with
  |normal =>
   refine strip harr₂ hstep (uQ ?_);rw[ht,vX];intro e;have:=congrArg (λo=>o.map λp=>p.2.length) e;simp[Frame.atR]at this
  |exit id =>
   refine⟨λk' hk=>strip (harr₂.1 k' hk) hstep (uQ ?_),λhr' hk=>?_⟩
   .rw[ht,vX];intro e;have h1:=congrArg (λo=>o.map λp=>p.2.length) e;have h2:=abU hk;simp[Frame.atR]at h1;omega
   .obtain⟨k₁,h1,h2⟩:=harr₂.2 hr' hk;refine⟨k₁,h1,strip h2 hstep (uQ ?_)⟩;rw[ht,vX];intro e;simp[Frame.atR]at e
  |goto l =>
   refine⟨λk' hk=>strip (harr₂.1 k' hk) hstep (uQ ?_),λhr' hk=>?_⟩
   .rw[ht,vX];intro e;simp only[aG,Prod.mk.injEq]at e;exact RQ hk e.2.symm
   .obtain⟨k₁,h1,h2⟩:=harr₂.2 hr' hk;refine⟨k₁,h1,strip h2 hstep (uQ ?_)⟩;rw[ht,vX];intro e;simp[Frame.atR]at e
  |ret =>
   refine⟨λhr'=>?_,λhr'=>?_⟩
   .obtain⟨todo,h1⟩:=harr₂.1 hr';refine⟨todo,strip h1 hstep (uQ ?_)⟩;rw[ht,vX];intro e;simp at e
   .obtain⟨k₁,h2⟩:=harr₂.2 hr';refine⟨k₁,strip h2 hstep (uQ ?_)⟩;rw[ht,vX];intro e;simp[Frame.atR]at e
  |panic ch =>
   obtain⟨todo,h1⟩:=harr₂;refine⟨todo,strip h1 hstep (uQ ?_)⟩;rw[ht,vX];intro e;simp at e
  |outgrown=>exact absurd hq₂ (hQ _ _)
 |exit id=>exact⟨_,a₁,w₁,hq,.of_steps h0 (.pass (x:=.inLoop c) rfl (λ_ _=>.inl (by simp)) harr)⟩
 |goto l=>exact⟨_,a₁,w₁,hq,.of_steps h0 (.pass (x:=.inLoop c) rfl (λ_ _=>.inl (by simp)) harr)⟩
 |ret=>exact⟨_,a₁,w₁,hq,.of_steps h0 (.pass (x:=.inLoop c) rfl (λ_ _=>.inl (by simp)) harr)⟩
 |panic ch=>exact⟨_,a₁,w₁,hq,.of_steps h0 (.pass (x:=.inLoop c) rfl (λ_ _=>.inl (by simp)) harr)⟩
 |outgrown=>exact absurd hq (hQ _ _)
end
end Go.Vx
