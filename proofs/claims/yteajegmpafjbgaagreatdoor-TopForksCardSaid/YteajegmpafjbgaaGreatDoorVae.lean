/- A part of the proof of TopForks. -/
import Derived.Test.YteajegmpafjbgaaGreatDoorVad
set_option linter.all false
set_option maxRecDepth 1000000
set_option maxHeartbeats 80000000
noncomputable section
namespace Go.Vx
section
open Go Go.RowKit
variable {P:Program}{Hn H2:Hints}{comp:FuncId->Code->aN}{g g' g'':G}{σ σ' sJ:H}{w w' w'':World}{β β' β'':Nat->Option Nat}{lo lo':Lo}{fr fr' F F':List V}{A A':Act}{B0:Nat}{ro:Option Nat}
def Dt{ih:Ih}:∀(l m:List Ins) (fr:List V) (lo:Lo) (σ:H),fG ih (l++m) fr lo σ=Bz (fG ih m) (fG ih l fr lo σ)
 |[],m,fr,lo,σ=>rfl
 |i::l,m,fr,lo,σ=>by
  have key:∀o,Bz (fG ih (l++m)) o=Bz (fG ih m) (Bz (fG ih l) o):=by
   intro o;cases o with
   |norm a b c=>exact Dt l m a b c
   |_=>rfl
  cases i with
  |chk g t o =>
   have e1:∀is:List Ins,fG ih (.chk g t o::is) fr lo σ=bif yg g t o fr lo σ then fG ih is fr lo σ else .fail:=λ_=>rfl
   rw[dZ,e1,e1];cases yg g t o fr lo σ with
   |true=>exact Dt l m fr lo σ
   |false=>rfl
  |_=>exact key _
def amy{p1 p2:Nat}{fr:List V}{lo:Lo}{σ:H}(h:yx p2 (.qJ (.tmp p2) (.tmp p1)) fr lo σ=true):∃a b o q,aA fr p1=.bg a o/\aA fr p2=.bg b q/\a≠b:=by
 unfold yx at h;simp only[aK,uf,aC.ev]at h;cases h2:aA fr p2 with
 |bg b q =>
  rw[h2]at h;dsimp only at h;cases h1:aA fr p1 with
  |bg a o =>
   rw[h1]at h;dsimp only at h;cases hb:Nat.beq b a with
   |true=>rw[hb]at h;cases h
   |false=>exact⟨a,b,o,q,rfl,rfl,λe=>by rw[e,abA]at hb;cases hb⟩
  |_=>rw[h1]at h;cases h
 |_=>rw[h2]at h;cases h
def QX{i:Ins}{p:Nat}(h:storeAt i=some p):∃k x,i=.op none (.store k (.tmp p) x):=by
 unfold storeAt at h
 split at h
 .cases h;exact⟨_,_,rfl⟩
 .cases h
structure apt (ins:Nat->Ins)(cls ms:Nat->Nat)(n:Nat)(s:Swap):Prop where
 draw:Em ins cls (Dc ms s.e1 s.e2) n s.l=true
 reads:Xb ins cls ms n=true
 stages:Fb s.e1 s.e2 s.l=true
 lt1:s.e1<n
 lt2:s.e2<n
 ne:s.e1≠s.e2
 nb:(ms s.e1).testBit s.e2=false
 c1:cls s.e1=2
 c2:cls s.e2=2
 oth:∀e,e<n->cls e=2->e≠s.e1->e≠s.e2->(ms s.e2).testBit e=true
 one:∀i,i<n->cls i=1->(ms s.e2).testBit i=true
 i1:storeAt (ins s.e1)=some s.p1
 i2:storeAt (ins s.e2)=some s.p2
def aak{f:Nat}{ops:Array Oper}{s:Swap}(h:QB P Hn f ops=some s) :
  apt (insOf P (iI Hn) f ops) (kP P (iI Hn) f ops) (C9 ops) ops.size s/\qU ops.toList 0=true/\s.l≠[]:=by
 unfold QB at h;dsimp only at h
 split at h
 .cases h
 .rename_i e1 e2 _
  split at h
  .rename_i p1 p2 h1 h2
   split at h
   .rename_i hc;cases h;simp only[ah,aAz]at hc;obtain⟨⟨⟨⟨⟨⟨⟨⟨⟨⟨⟨⟨d1,d2⟩,d3⟩,d4⟩,d5⟩,d6⟩,d7⟩,d8⟩,d9⟩,d10⟩,d11⟩,d12⟩,d13⟩:=hc;refine⟨⟨d1,d2,d3,by rwa[Nat.blt_eq]at d4,by rwa[Nat.blt_eq]at d5,λe=>?_,by rw[fQ]at d7;exact d7,aP d8,aP d9,λe he hce h3 h4=>?_,λi hi hci=>?_,h1,h2⟩,d12,λe=>?_⟩
    .dsimp only at e;rw[e,abA]at d6;cases d6
    .have:=jW.1 d10 e (dh.2 he);simp only[gQ,fQ]at this;rcases this with((h|h)|h)|h
     .have h':Nat.beq (kP P (iI Hn) f ops e) 2=false:=h;rw[hce]at h';cases h'
     .exact absurd (aP h) h3
     .exact absurd (aP h) h4
     .exact h
    .have:=jW.1 d11 i (dh.2 hi);simp only[gQ,fQ]at this;rcases this with h|h
     .have h':Nat.beq (kP P (iI Hn) f ops i) 1=false:=h;rw[hci]at h';cases h'
     .exact h
    .dsimp only at e;rw[e]at d13;simp at d13
   .cases h
  .cases h
def aan{ins:Nat->Ins}{cls ms:Nat->Nat}{n:Nat}(h:Xb ins cls ms n=true):∀i j t,i<n->j<n->cls i≠3->cls j≠2->(ins j).dst=some t->t∈(ins i).slots->(ms i).testBit j=true/\(cls i=2\/cls j≠3):=by
 intro i j t hi hj hci hcj hd ht;have:=jW.1 h i (fZ.2 ⟨dh.2 hi,KL hci⟩);have:=jW.1 this j (fZ.2 ⟨dh.2 hj,KL hcj⟩);rw[hd]at this;simp only[pU.2 ht,Bool.not_true,Bool.false_or,ah,gQ]at this;refine⟨this.1,?_⟩;rcases this.2 with h|h
 .exact .inl (aP h)
 .refine .inr λe=>?_;rw[e]at h;simp at h
def aaQ{f:Nat}{ops:Array Oper}{ms:Nat->Nat}{sw:Nat->Prop}{l:List jh}{ms':Nat->Nat}(hf:JQ (insOf P H2 f ops) (kP P H2 f ops) ms' ops.size l)(hl:qU ops.toList 0=true)
  (hms:∀i,¬sw i->ms i=C9 ops i) (hsub:∀i j,(C9 ops i).testBit j=true->(ms i).testBit j=true)
  (hr:∀i j t,i<ops.size->j<ops.size->kP P H2 f ops i≠3->kP P H2 f ops j≠2->(insOf P H2 f ops j).dst=some t->t∈(insOf P H2 f ops i).slots->(ms i).testBit j=true/\(kP P H2 f ops i=2\/kP P H2 f ops j≠3)) :
  Stat P H2 f ops (insOf P H2 f ops) (kP P H2 f ops) ms sw:=by
 have hget:∀i,i<ops.size->ops[i]?=some ops[i]!:=λi hi=>by simp[hi]
 refine⟨λi o _ h=>I4 h,λi hi hc=>?_,λi hi hc=>?_,λi=>?_,λi o j aCh ho hb=>?_,λi j d hi hj hci hcj h1 h2=>?_,λe i d he hi hce hci h1 h2=>?_,hr,hf.loc,λi hc=>zi hc,λi o ho e he hb=>?_⟩
 .rw[xM (hget i hi)]at hc|-;exact Hz hc
 .rw[xM (hget i hi)]at hc;exact PL hc
 .by_cases hi:i<ops.size
  .have:=Ky (o:=ops[i]!) (i:=insOf P H2 f ops i);rw[xM (hget i hi)];omega
  .by_cases hc:kP P H2 f ops i=2
   .omega
   .exact absurd (zi hc) hi
 .rw[hms i aCh]at hb;obtain⟨e,he,hbe,h⟩:=F9 (ops:=ops.toList) (by rw[qc];exact ho) hb;refine⟨e,Array.mem_toList_iff.1 he,hbe,?_⟩;rcases h with h|h
  .exact .inl h
  .exact .inr (hsub _ _ h)
 .refine IE hf.nodup i ?_ j ?_ h1 h2 (List.Pairwise.filter _ List.nodup_range)
  .exact fZ.2 ⟨dh.2 hi,KL hci⟩
  .exact fZ.2 ⟨dh.2 hj,KL hcj⟩
 .exact hf.avs d (jM.2 ⟨e,fZ.2 ⟨dh.2 he,by simpa using hce⟩,h1⟩) (jM.2 ⟨i,fZ.2 ⟨dh.2 hi,KL hci⟩,h2⟩)
 .have:=yK hl i o (by rw[qc];exact ho) e he hb;omega
def akE(Pz:P.follows .mixedOrders=true)(hidle:∀q∈Hn.idle,A8 P q){ih:Ih}(h0:Rz P Hn ih){f id:Nat}{ops:Array Oper}{sp:Swap}(hp:QB P Hn f ops=some sp){fr:List V}{lo:Lo}{σ:H}{w:World}{g:G}{β:Nat->Option Nat}{A:Act}{B0:Nat}{ro:Option Nat}
  (hro:ro.isSome=true->Di ops=true) (hsc:Sc P (aX P Hn) B0 g β σ lo fr A w)
  (hout:fG ih (flatten (insOf P (iI Hn) f ops) sp.l++[.chk none sp.p2 (.qJ (.tmp sp.p2) (.tmp sp.p1))]) fr lo σ≠.fail) :
  (Code.region id ops true).wpIn (Fw ro) 0 P (kV P (aX P Hn) B0 g β σ w (fG ih (flatten (insOf P (iI Hn) f ops) sp.l++[.chk none sp.p2 (.qJ (.tmp sp.p2) (.tmp sp.p1))]) fr lo σ)) A w:=by
 obtain⟨hfa,h2,h3⟩:=aak hp;rw[Dt]at hout|-;obtain⟨F1,l1,σ1,Y2⟩:∃F l s,fG ih (flatten (insOf P (iI Hn) f ops) sp.l) fr lo σ=.norm F l s:=by
  cases hq:fG ih (flatten (insOf P (iI Hn) f ops) sp.l) fr lo σ with
  |norm a b c=>exact⟨a,b,c,rfl⟩
  |_=>rw[hq]at hout;exact absurd rfl hout
 have hck:yx sp.p2 (.qJ (.tmp sp.p2) (.tmp sp.p1)) F1 l1 σ1=true:=by
  rw[Y2]at hout;have e1:Bz (fG ih [.chk none sp.p2 (.qJ (.tmp sp.p2) (.tmp sp.p1))]) (.norm F1 l1 σ1)=bif yx sp.p2 (.qJ (.tmp sp.p2) (.tmp sp.p1)) F1 l1 σ1 then .norm F1 l1 σ1 else .fail:=rfl
  rw[e1]at hout;cases hc:yx sp.p2 (.qJ (.tmp sp.p2) (.tmp sp.p1)) F1 l1 σ1 with
  |true=>rfl
  |false=>rw[hc]at hout;exact absurd rfl hout
 have hsame:Bz (fG ih [.chk none sp.p2 (.qJ (.tmp sp.p2) (.tmp sp.p1))]) (fG ih (flatten (insOf P (iI Hn) f ops) sp.l) fr lo σ)=fG ih (flatten (insOf P (iI Hn) f ops) sp.l) fr lo σ:=by
  rw[Y2];have e1:Bz (fG ih [.chk none sp.p2 (.qJ (.tmp sp.p2) (.tmp sp.p1))]) (.norm F1 l1 σ1)=bif yx sp.p2 (.qJ (.tmp sp.p2) (.tmp sp.p1)) F1 l1 σ1 then .norm F1 l1 σ1 else .fail:=rfl
  rw[e1,hck];rfl
 rw[hsame]at hout|-;have hf:=CQ hfa.draw;have hs':Stat P (iI Hn) f ops (insOf P (iI Hn) f ops) (kP P (iI Hn) f ops) (Dc (C9 ops) sp.e1 sp.e2) (λj=>j=sp.e2):=aaQ hf h2 (λi hi=>NR hi) (λi j h=>EL h) hf.reads;have hs:Stat P (iI Hn) f ops (insOf P (iI Hn) f ops) (kP P (iI Hn) f ops) (C9 ops) (λ_=>False):=aaQ hf h2 (λ_ _=>rfl) (λ_ _ h=>h) (aan hfa.reads);have azp:SwF (insOf P (iI Hn) f ops) (kP P (iI Hn) f ops) (C9 ops) ops.size sp.e1 sp.e2 sp.p1 sp.p2 (fG ih (flatten (insOf P (iI Hn) f ops) sp.l) fr lo σ) :=
  ⟨QX hfa.i1,QX hfa.i2,hfa.lt1,hfa.lt2,hfa.ne,hfa.nb,hfa.c1,hfa.c2,hfa.oth,hfa.one,λF l s he=>by
   rw[Y2]at he;cases he;exact amy hck⟩
 have azn:=hfa.stages;refine wpIn_region_any Pz ?_;cases hpl:sp.l with
 |nil=>exact absurd hpl h3
 |cons s rest =>
 rw[hpl]at hf hout azp azn;obtain⟨hso,hok⟩:=kM hf.stages;have hnd:∀i,i<ops.size->¬done (Array.replicate ops.size false) i:=λi hi h=>by
  unfold done at h;simp[Array.getD,hi]at h
 have hnd':∀i,kP P (iI Hn) f ops i≠2->¬done (Array.replicate ops.size false) i:=λi hc=>hnd i (hs.OO i hc);have hcore:Core P Hn ops (insOf P (iI Hn) f ops) (kP P (iI Hn) f ops) (Dc (C9 ops) sp.e1 sp.e2) B0 g β σ w [] lo σ fr (Array.replicate ops.size false) A { w with drawn:=w.drawn+1 } g β fr (λ_=>0):=by
  refine⟨by simp,λj hj hd=>absurd hd (hnd j hj),hsc.drawn,.drawn,rfl,λt=>.inl rfl,λa ha=>by simp at ha,λa d z ha _ hd=>absurd hd (hnd a ha),λa a' ha _ _ _ hd=>absurd hd (hnd a ha)⟩
 have hout2:∀e∈kD (s::rest),e<ops.size:=λe he=>by
  simp only[kD,wG,dH]at he;rcases he with he|he
  .exact(hso.cur.GN e (by simpa[wH]using he)).2.1
  .exact(pz rest hok e he).2.1
 obtain⟨DV,k1,k2,k3⟩:=enter (n:=ops.size) (aL:=Ol _ ops.size) hout hs' hso hok hcore rfl (λi hi=>by simp[vW]at hi) (λi hi=>by simp[vW]at hi) (λi hi=>hnd' i (by have:=(hso.pre i hi).1;omega))
  (λi h1 h2 _=>.inr (by rcases hf.cover i h1 with h|h|h<;>first|exact h.2|omega)) (λe he=>hnd e (hout2 e he)) (λe h1 h2 _=>by rcases hf.cover e h1 with h|h|h<;>first|exact h.2|omega) rfl
 have hsi:SwI sp.e1 sp.e2 s.nO s.eff rest:=SwI.next (nO:=[]) (eff:=none) ⟨λh=>(by cases h),azn⟩;refine arx (H2:=iI Hn) (f:=f) hout ⟨h0.call,h0.app,hidle,h0.loc,hro⟩ hs' hs azp ops.size ?_ ⟨k1,k3,hso.cur,hok,k2⟩ hsi;unfold qZ;exact lM (List.length_filter_le _ _) (by simp)
def akD(Pz:P.follows .mixedOrders=true)(hidle:∀q∈Hn.idle,A8 P q){ih:Ih}(h0:Rz P Hn ih)(l:List Ins)(fr:List V)(lo:Lo)(σ:H):U1 P Hn l fr lo σ (fG ih l fr lo σ):=by
 intro f id ops ro B0 g β A w hc hro hsc hout;have hcd:Oz P Hn f ops=l:=by
  have:(aN.draw (Oz P Hn f ops))=.draw l:=by rw[<- hc];rfl
  injection this
 cases hp:WX P Hn f ops with
 |none =>
  cases hp2:QB P Hn f ops with
  |none =>
   have:l=[.op none .bad]:=by rw[<- hcd];unfold Oz;rw[hp,hp2]
   subst this;exact absurd rfl hout
  |some sp =>
   have hfl:l=flatten (insOf P (iI Hn) f ops) sp.l++[.chk none sp.p2 (.qJ (.tmp sp.p2) (.tmp sp.p1))]:=by rw[<- hcd];unfold Oz;rw[hp,hp2];rfl
   subst hfl;exact akE Pz hidle h0 hp2 hro hsc hout
 |some pl =>
 have hfl:l=flatten (insOf P (iI Hn) f ops) pl:=by rw[<- hcd];unfold Oz;rw[hp];rfl
 subst hfl;obtain⟨h1,h2,h3⟩:=aaj hp;have hf:=CQ h1;have hs:=asL hf h2;refine wpIn_region_any Pz ?_;cases pl with
 |nil=>exact absurd rfl h3
 |cons s rest =>
 obtain⟨hso,hok⟩:=kM hf.stages;have hnd:∀i,i<ops.size->¬done (Array.replicate ops.size false) i:=λi hi h=>by
  unfold done at h;simp[Array.getD,hi]at h
 have hnd':∀i,kP P (iI Hn) f ops i≠2->¬done (Array.replicate ops.size false) i:=λi hc=>hnd i (hs.OO i hc);have hcore:Core P Hn ops (insOf P (iI Hn) f ops) (kP P (iI Hn) f ops) (C9 ops) B0 g β σ w [] lo σ fr (Array.replicate ops.size false) A { w with drawn:=w.drawn+1 } g β fr (λ_=>0):=by
  refine⟨by simp,λj hj hd=>absurd hd (hnd j hj),hsc.drawn,.drawn,rfl,λt=>.inl rfl,λa ha=>by simp at ha,λa d z ha _ hd=>absurd hd (hnd a ha),λa a' ha _ _ _ hd=>absurd hd (hnd a ha)⟩
 have hout2:∀e∈kD (s::rest),e<ops.size:=λe he=>by
  simp only[kD,wG,dH]at he;rcases he with he|he
  .exact(hso.cur.GN e (by simpa[wH]using he)).2.1
  .exact(pz rest hok e he).2.1
 obtain⟨DV,k1,k2,k3⟩:=enter (n:=ops.size) (aL:=Ol _ ops.size) hout hs hso hok hcore rfl (λi hi=>by simp[vW]at hi) (λi hi=>by simp[vW]at hi) (λi hi=>hnd' i (by have:=(hso.pre i hi).1;omega))
  (λi h1 h2 _=>.inr (by rcases hf.cover i h1 with h|h|h<;>first|exact h.2|omega)) (λe he=>hnd e (hout2 e he)) (λe h1 h2 _=>by rcases hf.cover e h1 with h|h|h<;>first|exact h.2|omega) rfl
 refine ae9 (H2:=iI Hn) (f:=f) (sw:=λ_=>False) (λ_ h=>h) hout ⟨h0.call,h0.app,hidle,h0.loc,hro⟩ hs ops.size ?_ ⟨k1,k3,hso.cur,hok,k2⟩;unfold qZ;exact lM (List.length_filter_le _ _) (by simp)
end
section
open Go Go.RowKit
variable {P:Program}{Hn H2:Hints}{comp:FuncId->Code->aN}{g g' g'':G}{σ σ' sJ:H}{w w' w'':World}{β β' β'':Nat->Option Nat}{lo lo':Lo}{fr fr' F F':List V}{A A':Act}{B0:Nat}{ro:Option Nat}
mutual
def aO:V->Bool
 |.bg _ _=>false
 |.hsl _ _ _ _ _=>false
 |.map _=>false
 |.func (.func _) a b=>aW a&&aW b
 |.func _ _ _=>false
 |.iface _ v=>aO v
 |.agg cs=>aW cs
 |.tuple cs=>aW cs
 |.iE cs=>aW cs
 |.list xs _=>aW xs
 |_=>true
def aW:List V->Bool
 |[]=>true
 |v::vs=>aO v&&aW vs
end
def oW:∀{l:List V} {i:Nat} {v:V},aW l=true->l[i]?=some v->aO v=true
 |[],i,v,_,h=>by simp at h
 |x::xs,i,v,hf,h=>by
  simp only[aW,ah]at hf;cases i with
  |zero=>simp at h;subst h;exact hf.1
  |succ i=>simp at h;exact oW hf.2 h
def YL{x c:V}{j:Nat}(h:aO x=true)(hc:x.cells[j]?=some c):aO c=true:=by
 have single:∀y:V,[y][j]?=some c->aO y=true->aO c=true:=by
  intro y hy hf;cases j with
  |zero=>simp at hy;subst hy;exact hf
  |succ j=>simp at hy
 cases x with
 |agg cs=>exact oW (l:=cs) (by simpa[aO]using h) hc
 |_=>exact single _ hc h
def Rv.flat{v:V}{x:Value}(hφ:∀b o y,g.φ b o=some y->g'.φ b o=some y)(hpn:∀k,g'.pin k->g.pin k)(h:Rv g v x):aO v=true->Rv g' v x:=by
 induction h with
 |undef w=>intro _;exact .undef w
 |bool b=>intro _;exact .bool b
 |int k n=>intro _;exact .int k n
 |str bs=>intro _;exact .str bs
 |nilPtr=>intro _;exact .nilPtr
 |bg off h=>intro hf;simp[aO]at hf
 |iE vs h hr ih=>intro hf;exact .iE vs (λj c e=>hφ _ _ _ (h j c e)) λj c e=>ih j c e (oW (by simpa[aO]using hf) e)
 |aj=>intro _;exact .aj
 |list k vs hk hc he hp h hr ih=>intro hf;exact .list k vs hk hc he (λx hx e hq=>hp x hx e (hpn _ hq)) (λi x j c e e'=>hφ _ _ _ (h i x j c e e')) λi x j c e e'=>ih i x j c e e' (YL (oW (by simpa[aO]using hf) e) e')
 |hsl h hl hc hn=>intro hf;simp[aO]at hf
 |fA=>intro _;exact .fA
 |map h=>intro hf;simp[aO]at hf
 |nilFunc=>intro _;exact .nilFunc
 |func hf ha hb has hbs i1 i2 =>
  intro hfl;cases hf with
  |yield h=>simp[aO]at hfl
  |func f =>
   simp only[aO,ah]at hfl;exact .func (.func f) ha hb (λi v w a b=>i1 i v w a b (oW hfl.1 a)) λi v w a b=>i2 i v w a b (oW hfl.2 a)
 |nilIface=>intro _;exact .nilIface
 |iface t h ih=>intro hf;exact .iface t (ih (by simpa[aO]using hf))
 |agg hl h ih=>intro hf;exact .agg hl λi v w a b=>ih i v w a b (oW (by simpa[aO]using hf) a)
 |tuple hl h ih=>intro hf;exact .tuple hl λi v w a b=>ih i v w a b (oW (by simpa[aO]using hf) a)
def emp:H:=⟨0,.leaf⟩
def CS(i:Nat):emp.get i=none:=rfl
def Eo{b:Nat}:¬Live g emp b:=by rintro ⟨i,n,h,_⟩;rw[CS]at h;cases h
def Us{v:V}{σ1:H}{x:Value}(hv:aO v=true)(hw:Rw P (aX P Hn) g σ w)(h:xJ P Hn { g with ρ:=λ_=>none } emp w v σ1 x w'):xJ P Hn g σ w v σ x w':=by
 obtain⟨g1,h1,h2,h3⟩:=h;have hle:g.le { g1 with ρ:=g.ρ }:=⟨λ_ _ h=>h,h3.le.φ,h3.le.pin⟩;refine⟨{ g1 with ρ:=g.ρ },Rv.flat (g:=g1) (λ_ _ _ h=>h) (λ_ h=>h) h1 hv,⟨h2.frozen,λi ob hi=>?_,hw.inj,hw.fresh,λi b n h=>jQ (hw.bound i b n h) h3.qg.size⟩,⟨hle,⟨h3.qg.os,h3.qg.tape,h3.qg.output,h3.qg.size,λk hk hl hb hp=>?_⟩,λb hb _=>hb,λt b h=>(by cases h),λb hb hp hl=>?_⟩⟩
 .obtain⟨b,n,k1,k2,k3⟩:=hw.objs i ob hi;have hlt:=hw.bound i b n k1;exact⟨b,n,k1,k2.mono hle (h3.qg.block b hlt Eo (by rintro ⟨t,h⟩;cases h) (.inl k3)),h3.phi b hlt k3 Eo⟩
 .exact h3.qg.block k hk Eo (by rintro ⟨t,h⟩;cases h) hp
 .exact h3.phi b hb hp Eo
def Hq{f:FuncId}{args:List V}{v:V}{σ1:H}(hc:qm P Hn f args emp (.val v σ1))(ha:aW args=true)(hv:aO v=true)(σ:H):qm P Hn f args σ (.val v σ):=by
 intro g As w v' σ' hargs hw e;cases e;have ha':lW { g with ρ:=λ_=>none } args As.toList:=⟨hargs.1,λi v w a b=>Rv.flat (g:=g) (λ_ _ _ h=>h) (λ_ h=>h) (hargs.2 i v w a b) (oW ha a)⟩;have hw':Rw P (aX P Hn) { g with ρ:=λ_=>none } emp w:=⟨hw.frozen,λi ob h=>(by rw[CS]at h;cases h),λi j b n m h=>(by rw[CS]at h;cases h),λi _=>⟨rfl,rfl⟩,λi b n h=>(by cases h)⟩;rcases hc { g with ρ:=λ_=>none } As w v σ1 ha' hw' rfl with⟨h1,h2⟩|⟨h1,x,w',h2,h3⟩
 .exact .inl ⟨h1,CallsIn.mono h2 λe w' he=>by cases e<;>first|exact Us hv hw he|exact he.elim⟩
 .exact .inr ⟨h1,x,w',h2,Us hv hw h3⟩
def lZ(l:V):V->Bool:=V.rec (motive_1:=λ_=>V->Bool) (motive_2:=λ_=>List V->Bool)
 (λy=>match y with|.undef=>true|_=>false)
 (λa y=>match y with|.bool b=>(bif a then b else !b)|_=>false)
 (λk a y=>match y with|.int l b=>eqK k l&&sK a b|_=>false)
 (λa y=>match y with|.str b=>mW a b|_=>false)
 (λy=>match y with|.nilPtr=>true|_=>false)
 (λa b y=>match y with|.aY c d=>Nat.beq a c&&Nat.beq b d|_=>false)
 (λa b y=>match y with|.bg c d=>Nat.beq a c&&Nat.beq b d|_=>false)
 (λ_ ih y=>match y with|.iE b=>ih b|_=>false)
 (λy=>match y with|.aj=>true|_=>false)
 (λ_ x ih y=>match y with|.list b z=>(bif x then z else !z)&&ih b|_=>false)
 (λa b c x d y=>match y with|.hsl a' b' c' x' d'=>Nat.beq a a'&&Nat.beq b b'&&Nat.beq c c'&&Nat.beq d d'&&eqO x x'|_=>false)
 (λy=>match y with|.fA=>true|_=>false)
 (λa y=>match y with|.map b=>Nat.beq a b|_=>false)
 (λy=>match y with|.nilFunc=>true|_=>false)
 (λfn _ _ iha ihb y=>match fn,y with|.func f,.func (.func g) c d=>Nat.beq f g&&iha c&&ihb d|_,_=>false)
 (λy=>match y with|.nilIface=>true|_=>false)
 (λt _ ih y=>match y with|.iface u b=>Nat.beq t u&&ih b|_=>false)
 (λ_ ih y=>match y with|.agg b=>ih b|_=>false)
 (λ_ ih y=>match y with|.tuple b=>ih b|_=>false)
 (λys=>match ys with|[]=>true|_::_=>false)
 (λ_ _ ihv ihl ys=>match ys with|[]=>false|y::ys=>bif ihv y then ihl ys else false) l
def wL(l:List V):List V->Bool:=V.rec_1 (motive_1:=λ_=>V->Bool) (motive_2:=λ_=>List V->Bool)
 (λy=>match y with|.undef=>true|_=>false)
 (λa y=>match y with|.bool b=>(bif a then b else !b)|_=>false)
 (λk a y=>match y with|.int l b=>eqK k l&&sK a b|_=>false)
 (λa y=>match y with|.str b=>mW a b|_=>false)
 (λy=>match y with|.nilPtr=>true|_=>false)
 (λa b y=>match y with|.aY c d=>Nat.beq a c&&Nat.beq b d|_=>false)
 (λa b y=>match y with|.bg c d=>Nat.beq a c&&Nat.beq b d|_=>false)
 (λ_ ih y=>match y with|.iE b=>ih b|_=>false)
 (λy=>match y with|.aj=>true|_=>false)
 (λ_ x ih y=>match y with|.list b z=>(bif x then z else !z)&&ih b|_=>false)
 (λa b c x d y=>match y with|.hsl a' b' c' x' d'=>Nat.beq a a'&&Nat.beq b b'&&Nat.beq c c'&&Nat.beq d d'&&eqO x x'|_=>false)
 (λy=>match y with|.fA=>true|_=>false)
 (λa y=>match y with|.map b=>Nat.beq a b|_=>false)
 (λy=>match y with|.nilFunc=>true|_=>false)
 (λfn _ _ iha ihb y=>match fn,y with|.func f,.func (.func g) c d=>Nat.beq f g&&iha c&&ihb d|_,_=>false)
 (λy=>match y with|.nilIface=>true|_=>false)
 (λt _ ih y=>match y with|.iface u b=>Nat.beq t u&&ih b|_=>false)
 (λ_ ih y=>match y with|.agg b=>ih b|_=>false)
 (λ_ ih y=>match y with|.tuple b=>ih b|_=>false)
 (λys=>match ys with|[]=>true|_::_=>false)
 (λ_ _ ihv ihl ys=>match ys with|[]=>false|y::ys=>bif ihv y then ihl ys else false) l
def oU(l:List V):∀b,wL l b=true->l=b:=by
 refine V.rec_1 (motive_1:=λv=>∀y,lZ v y=true->v=y) (motive_2:=λl=>∀y,wL l y=true->l=y) ?_ ?_ ?_ ?_ ?_ ?_ ?_ ?_ ?_ ?_ ?_ ?_ ?_ ?_ ?_ ?_ ?_ ?_ ?_ ?_ ?_ l
 .intro y h;cases y<;>first|rfl|cases h
 .intro a y h;cases y<;>first|(cases h;done)|skip
  rename_i b;cases a<;>cases b<;>first|rfl|cases h
 .intro k a y h;cases y<;>first|(cases h;done)|skip
  rename_i l b;change(eqK k l&&sK a b)=true at h;rw[l7,uo]at h;simp at h;rw[h.1,h.2]
 .intro a y h;cases y<;>first|(cases h;done)|skip
  rename_i b;change mW a b=true at h;rw[um]at h;rw[beq_iff_eq.1 h]
 .intro y h;cases y<;>first|rfl|cases h
 .intro a b y h;cases y<;>first|(cases h;done)|skip
  rename_i c d;change(Nat.beq a c&&Nat.beq b d)=true at h;simp at h;rw[h.1,h.2]
 .intro a b y h;cases y<;>first|(cases h;done)|skip
  rename_i c d;change(Nat.beq a c&&Nat.beq b d)=true at h;simp at h;rw[h.1,h.2]
 .intro a ih y h;cases y<;>first|(cases h;done)|skip
  rename_i b;rw[ih b h]
 .intro y h;cases y<;>first|rfl|cases h
 .intro a x ih y h;cases y<;>first|(cases h;done)|skip
  rename_i b z;change((bif x then z else !z)&&wL a b)=true at h;simp only[ah]at h;rw[ih b h.2];have:x=z:=by cases x<;>cases z<;>simp_all
  rw[this]
 .intro a b c x d y h;cases y<;>first|(cases h;done)|skip
  rename_i a' b' c' x' d';change(Nat.beq a a'&&Nat.beq b b'&&Nat.beq c c'&&Nat.beq d d'&&eqO x x')=true at h;simp only[ah,Nat.beq_eq]at h;have h4:x=x':=by cases x<;>cases x'<;>simp_all [eqO]
  rw[h.1.1.1.1,h.1.1.1.2,h.1.1.2,h.1.2,h4]
 .intro y h;cases y<;>first|rfl|cases h
 .intro a y h;cases y<;>first|(cases h;done)|skip
  rename_i b;rw[aP (show Nat.beq a b=true from h)]
 .intro y h;cases y<;>first|rfl|cases h
 .intro fn a b iha ihb y h;cases fn<;>cases y<;>first|(cases h;done)|skip
  rename_i f fn' c d;cases fn'<;>first|(cases h;done)|skip
  rename_i g;change(Nat.beq f g&&wL a c&&wL b d)=true at h;simp only[ah,Nat.beq_eq]at h;rw[h.1.1,iha c h.1.2,ihb d h.2]
 .intro y h;cases y<;>first|rfl|cases h
 .intro t a ih y h;cases y<;>first|(cases h;done)|skip
  rename_i u b;change(Nat.beq t u&&lZ a b)=true at h;simp only[ah,Nat.beq_eq]at h;rw[h.1,ih b h.2]
 .intro a ih y h;cases y<;>first|(cases h;done)|skip
  rename_i b;rw[ih b h]
 .intro a ih y h;cases y<;>first|(cases h;done)|skip
  rename_i b;rw[ih b h]
 .intro y h;cases y<;>first|rfl|cases h
 .intro a l iha ihl y h;cases y<;>first|(cases h;done)|skip
  rename_i b m;change(bif lZ a b then wL l m else false)=true at h;cases hq:lZ a b with
  |false=>rw[hq]at h;cases h
  |true=>rw[hq]at h;rw[iha b hq,ihl m h]
structure MF where
 f:List V->Option V
abbrev eF:=Nat->Option MF
def recall:List (List V×V)->List V->Option V
 |[],_=>none
 |(a,v)::r,args=>bif wL a args then some v else recall r args
def ay(mm:eF)(f:Nat)(args:List V):Option V:=match mm f with
 |none=>none
 |some m=>m.f args
def stepM(mm:eF)(fns:Nat->Option bF)(ih:Ih)(c:Cmd):List V->Lo->H->Out:=match c with
 |.call f args=>λ_ _ h=>match ay mm f args with
  |some v=>.val v h
  |none=>yj fns ih f args h
 |c=>step fns ih c
def runM(mm:eF)(fns:Nat->Option bF)(n:Nat):Ih:=Nat.rec (motive:=λ_=>Ih) (λ_ _ _ _=>.fail) (λ_ ih=>stepM mm fns ih) n
def qN(P:Program)(Hn:Hints)(mm:eF):Prop:=∀f args v,ay mm f args=some v->∀σ,qm P Hn f args σ (.val v σ)
def QI:∀{l:List (List V×V)} {args:List V} {v:V},recall l args=some v->(args,v)∈l
 |[],_,_,h=>by cases h
 |(a,u)::r,args,v,h=>by
  simp only[recall]at h;cases he:wL a args with
  |true =>
   rw[he]at h;simp only[cond_true,aG]at h;subst h;rw[oU _ _ he];exact bZ
  |false=>rw[he]at h;exact bW _ (QI h)
def aiQ{ih:Ih}{mm:eF}{fns:Nat->Option bF}(Pz:P.follows .mixedOrders=true)(hmm:qN P Hn mm)(Y0:∀f vf,fns f=some vf->OA P Hn f=some vf)(hext:∀f vf,fns f=some vf->vf.ext≠0->Lr P Hn f vf)(hidle:∀q∈Hn.idle,A8 P q)
  (h0:Rz P Hn ih):Rz P Hn (stepM mm fns ih) :=
 have h1:=anW Y0 hext hidle (λih h0 l fr lo σ=>akD Pz hidle h0 l fr lo σ) h0
 {code:=h1.code,ops:=h1.ops,draws:=h1.draws,app:=h1.app,scope:=h1.scope,loc:=h1.loc,bad:=h1.bad
  call:=λf args σ=>by
   simp only[stepM];cases hr:ay mm f args with
   |none=>exact h1.call f args σ
   |some v=>exact hmm f args v hr σ }
def Jv{mm:eF}{fns:Nat->Option bF}(Pz:P.follows .mixedOrders=true)(hmm:qN P Hn mm)(Y0:∀f vf,fns f=some vf->OA P Hn f=some vf)(hext:∀f vf,fns f=some vf->vf.ext≠0->Lr P Hn f vf)(hidle:∀q∈Hn.idle,A8 P q):∀n,Rz P Hn (runM mm fns n)
 |0=>{
   code:=by intro vc fr lo σ f c ro B0 g β A w hc hfl hsc hne;exact absurd rfl hne
   ops:=by intro l fr lo σ f ops idx ro B0 g β A w hl hro hsc hne;exact absurd rfl hne
   draws:=by intro l fr lo σ f id ops ro B0 g β A w hc hro hsc hne;exact absurd rfl hne
   call:=by intro f args σ g As w v σ' ha hw e;cases e
   app:=by intro fv args σ g X As w v σ' hf ha hw e;cases e
   scope:=by intro vc vr fr lo σ f c r ro B0 g β A w hc hr hfc hfr hsc hne;exact absurd rfl hne
   loc:=λ_ _ _ _=>rfl
   bad:=λ_ _ _=>rfl }
 |n+1=>aiQ Pz hmm Y0 hext hidle (Jv Pz hmm Y0 hext hidle n)
def arH{mm:eF}{fns:Nat->Option bF}(hs:∀n,Rz P Hn (runM mm fns n)){n:Nat}{f:FuncId}{args:List V}{v:V}(h:(match runM mm fns n (.call f args) [] [] emp with|.val u _=>lZ u v|_=>false)=true)(ha:aW args=true)(hv:aO v=true)(σ:H):qm P Hn f args σ (.val v σ):=by
 have hc:=(hs n).call f args emp;cases ho:runM mm fns n (.call f args) [] [] emp with
 |val u σ1 =>
  rw[ho]at h hc;have h2:wL [u] [v]=true:=by
   have h3:lZ u v=true:=h;change(bif lZ u v then true else false)=true;rw[h3];rfl
  have:=(List.cons.inj (oU _ _ h2)).1;subst this;exact Hq hc ha hv σ
 |_=>rw[ho]at h;cases h
end
section
open Go
section
structure W (α:Type) where
 f:α
structure X6 (α:Type) where
 a:α
 b:α
 c:α
 d:α
 e:α
 g:α
abbrev Fr:=X6 (X6 (X6 V))
abbrev Bx:=X6 (X6 (X6 (List V)))
def g6{α:Type}(k:Nat):W (X6 α->α):=match k with
 |0=>⟨λq=>q.a⟩
 |1=>⟨λq=>q.b⟩
 |2=>⟨λq=>q.c⟩
 |3=>⟨λq=>q.d⟩
 |4=>⟨λq=>q.e⟩
 |_=>⟨λq=>q.g⟩
def s6{α:Type}(k:Nat):W (X6 α->α->X6 α):=match k with
 |0=>⟨λq v=>X6.rec (λ_ b c d e g=>⟨v,b,c,d,e,g⟩) q⟩
 |1=>⟨λq v=>X6.rec (λa _ c d e g=>⟨a,v,c,d,e,g⟩) q⟩
 |2=>⟨λq v=>X6.rec (λa b _ d e g=>⟨a,b,v,d,e,g⟩) q⟩
 |3=>⟨λq v=>X6.rec (λa b c _ e g=>⟨a,b,c,v,e,g⟩) q⟩
 |4=>⟨λq v=>X6.rec (λa b c d _ g=>⟨a,b,c,d,v,g⟩) q⟩
 |_=>⟨λq v=>X6.rec (λa b c d e _=>⟨a,b,c,d,e,v⟩) q⟩
def sg{α:Type}(i:Nat):W (X6 (X6 (X6 α))->α):=⟨λfr=>(g6 (i%6)).f ((g6 (i / 6%6)).f ((g6 (i / 36)).f fr))⟩
def ss{α:Type}(i:Nat):W (X6 (X6 (X6 α))->α->X6 (X6 (X6 α))):=⟨λfr v=>(s6 (i / 36)).f fr ((s6 (i / 6%6)).f ((g6 (i / 36)).f fr) ((s6 (i%6)).f ((g6 (i / 6%6)).f ((g6 (i / 36)).f fr)) v))⟩
def sW{α:Type}(x:α):X6 α:=⟨x,x,x,x,x,x⟩
def zW:Fr:=sW (sW (sW .undef))
def bx0:Bx:=sW (sW (sW []))
inductive VI where
 |no
 |yes (k:IntKind) (n:Int)
inductive VB where
 |no
 |yes (b:Bool)
inductive VL where
 |no
 |yes (l:List V)
inductive VP where
 |no
 |heap (i o:Nat)
 |ak7 (cs:List V)
def Fp(v:V):VI:=V.rec (motive_1:=λ_=>VI) (motive_2:=λ_=>Unit)
 .no (λ_=>.no) (λk n=>.yes k n) (λ_=>.no) .no (λ_ _=>.no) (λ_ _=>.no) (λ_ _=>.no) .no (λ_ _ _=>.no) (λ_ _ _ _ _=>.no)
 .no (λ_=>.no) .no (λ_ _ _ _ _=>.no) .no (λ_ _ _=>.no) (λ_ _=>.no) (λ_ _=>.no) () (λ_ _ _ _=>()) v
def JI(v:V):VB:=V.rec (motive_1:=λ_=>VB) (motive_2:=λ_=>Unit)
 .no (λb=>.yes b) (λ_ _=>.no) (λ_=>.no) .no (λ_ _=>.no) (λ_ _=>.no) (λ_ _=>.no) .no (λ_ _ _=>.no) (λ_ _ _ _ _=>.no)
 .no (λ_=>.no) .no (λ_ _ _ _ _=>.no) .no (λ_ _ _=>.no) (λ_ _=>.no) (λ_ _=>.no) () (λ_ _ _ _=>()) v
def aa8(v:V):VP:=V.rec (motive_1:=λ_=>VP) (motive_2:=λ_=>Unit)
 .no (λ_=>.no) (λ_ _=>.no) (λ_=>.no) .no (λ_ _=>.no) (λi o=>.heap i o) (λcs _=>.ak7 cs) .no (λ_ _ _=>.no) (λ_ _ _ _ _=>.no)
 .no (λ_=>.no) .no (λ_ _ _ _ _=>.no) .no (λ_ _ _=>.no) (λ_ _=>.no) (λ_ _=>.no) () (λ_ _ _ _=>()) v
def aa7(v:V):VL:=V.rec (motive_1:=λ_=>VL) (motive_2:=λ_=>Unit)
 .no (λ_=>.no) (λ_ _=>.no) (λ_=>.no) .no (λ_ _=>.no) (λ_ _=>.no) (λ_ _=>.no) .no (λxs _ _=>.yes xs) (λ_ _ _ _ _=>.no)
 .no (λ_=>.no) .no (λ_ _ _ _ _=>.no) .no (λ_ _ _=>.no) (λ_ _=>.no) (λ_ _=>.no) () (λ_ _ _ _=>()) v
def atc(v:V):VL:=V.rec (motive_1:=λ_=>VL) (motive_2:=λ_=>Unit)
 .no (λ_=>.no) (λ_ _=>.no) (λ_=>.no) .no (λ_ _=>.no) (λ_ _=>.no) (λ_ _=>.no) .no (λ_ _ _=>.no) (λ_ _ _ _ _=>.no)
 .no (λ_=>.no) .no (λ_ _ _ _ _=>.no) .no (λ_ _ _=>.no) (λ_ _=>.no) (λvs _=>.yes vs) () (λ_ _ _ _=>()) v
def Nu(v:V):Bool:=V.rec (motive_1:=λ_=>Bool) (motive_2:=λ_=>Unit)
 false (λ_=>false) (λ_ _=>false) (λ_=>false) false (λ_ _=>true) (λ_ _=>false) (λ_ _=>false) false (λ_ _ _=>false) (λ_ _ _ _ _=>false)
 false (λ_=>false) false (λ_ _ _ _ _=>false) false (λ_ _ _=>false) (λ_ _=>false) (λ_ _=>false) () (λ_ _ _ _=>()) v
def UO(v:V):Bool:=V.rec (motive_1:=λ_=>Bool) (motive_2:=λ_=>Unit)
 true (λ_=>false) (λ_ _=>false) (λ_=>false) false (λ_ _=>true) (λ_ _=>false) (λ_ _=>false) false (λ_ _ _=>false) (λ_ _ _ _ _=>false)
 false (λ_=>false) false (λ_ _ _ _ _=>false) false (λ_ _ _=>false) (λ_ _=>false) (λ_ _=>false) () (λ_ _ _ _=>()) v
def Ld(v:V):Option (List V):=V.rec (motive_1:=λ_=>Option (List V)) (motive_2:=λ_=>Unit)
 none (λb=>some [.bool b]) (λk n=>some [.int k n]) (λs=>some [.str s]) (some [.nilPtr]) (λ_ _=>none) (λi o=>some [.bg i o]) (λcs _=>some [.iE cs]) (some [.aj]) (λxs e _=>some [.list xs e]) (λa b c d e=>some [.hsl a b c d e])
 (some [.fA]) (λi=>some [.map i]) (some [.nilFunc]) (λa b c _ _=>some [.func a b c]) (some [.nilIface]) (λt v _=>some [.iface t v]) (λcs _=>some cs) (λcs _=>some [.tuple cs]) () (λ_ _ _ _=>()) v
def axD(v:V):Bool:=V.rec (motive_1:=λ_=>Bool) (motive_2:=λ_=>Unit)
 false (λ_=>true) (λ_ _=>true) (λ_=>true) true (λ_ _=>false) (λ_ _=>true) (λ_ _=>true) true (λ_ _ _=>true) (λ_ _ _ _ _=>true)
 true (λ_=>true) true (λ_ _ _ _ _=>true) true (λ_ _ _=>true) (λ_ _=>false) (λ_ _=>false) () (λ_ _ _ _=>()) v
def Fv(v:V):Bool:=V.rec (motive_1:=λ_=>Bool) (motive_2:=λ_=>Unit)
 true (λ_=>true) (λ_ _=>true) (λ_=>true) true (λ_ _=>true) (λ_ _=>true) (λ_ _=>true) true (λ_ _ _=>true) (λ_ _ _ _ _=>false)
 true (λ_=>true) true (λ_ _ _ _ _=>true) true (λ_ _ _=>true) (λ_ _=>false) (λ_ _=>false) () (λ_ _ _ _=>()) v
def kN(k:IntKind):Nat:=IntKind.rec 0 1 2 3 4 5 6 7 k
def au7(a b:Int):Int:=Int.rec (λm=>Int.rec (λn=>.ofNat (Nat.add m n)) (λn=>Int.add (.ofNat m) (.negSucc n)) b) (λm=>Int.add (.negSucc m) b) a
def axt(a b:Int):Int:=Int.rec (λm=>Int.rec (λn=>Bool.rec (Int.sub (.ofNat m) (.ofNat n)) (.ofNat (Nat.sub m n)) (Nat.ble n m)) (λn=>Int.sub (.ofNat m) (.negSucc n)) b) (λm=>Int.sub (.negSucc m) b) a
def ltF(a b:Int):Bool:=Int.rec (λm=>Int.rec (λn=>Nat.ble (Nat.succ m) n) (λ_=>false) b) (λm=>Int.rec (λ_=>true) (λn=>Nat.ble (Nat.succ n) m) b) a
def eqF(a b:Int):Bool:=Int.rec (λm=>Int.rec (λn=>Nat.beq m n) (λ_=>false) b) (λm=>Int.rec (λ_=>false) (λn=>Nat.beq m n) b) a
def wrW(k:IntKind):W (Int->Int):=IntKind.rec ⟨λn=>IntKind.i8.wrap n⟩ ⟨λn=>IntKind.i16.wrap n⟩ ⟨λn=>IntKind.i32.wrap n⟩
 ⟨λn=>Int.rec (λm=>Bool.rec (IntKind.i64.wrap (.ofNat m)) (.ofNat m) (Nat.ble (Nat.succ m) 9223372036854775808)) (λm=>Bool.rec (IntKind.i64.wrap (.negSucc m)) (.negSucc m) (Nat.ble (Nat.succ m) 9223372036854775808)) n⟩
 ⟨λn=>xZ .u8 n⟩ ⟨λn=>xZ .u16 n⟩ ⟨λn=>IntKind.u32.wrap n⟩ ⟨λn=>xZ .u64 n⟩ k
def two(R:IntKind->Int->Int->Option V)(x y:V):Option V:=VI.rec none (λk a=>VI.rec none (λl b=>Bool.rec none (R k a b) (Nat.beq (kN k) (kN l))) (Fp y)) (Fp x)
def apI(op:BinOp):W (V->V->Option V):=match op with
 |.lss=>⟨λx y=>VI.rec (eH x y) (λk a=>VI.rec none (λl b=>Bool.rec none (some (.bool (ltF a b))) (Nat.beq (kN k) (kN l))) (Fp y)) (Fp x)⟩
 |.leq=>⟨λx y=>two (λ_ a b=>some (.bool (!ltF b a))) x y⟩
 |.gtr=>⟨λx y=>two (λ_ a b=>some (.bool (ltF b a))) x y⟩
 |.geq=>⟨λx y=>two (λ_ a b=>some (.bool (!ltF a b))) x y⟩
 |.add=>⟨λx y=>VI.rec (iK x y) (λk a=>VI.rec none (λl b=>Bool.rec none (some (.int k ((wrW k).f (au7 a b)))) (Nat.beq (kN k) (kN l))) (Fp y)) (Fp x)⟩
 |.sub=>⟨λx y=>two (λk a b=>some (.int k ((wrW k).f (axt a b)))) x y⟩
 |op=>⟨λx y=>cO op x y⟩
def amH(n:Nat):W (List V->Option V):=Nat.rec ⟨λl=>List.rec none (λx _ _=>some x) l⟩ (λ_ ih=>⟨λl=>List.rec none (λ_ xs _=>ih.f xs) l⟩) n
def afF(n:Nat):W (List V->List V):=Nat.rec ⟨λl=>l⟩ (λ_ ih=>⟨λl=>List.rec [] (λ_ xs _=>ih.f xs) l⟩) n
def Q9(n:Nat):W (List V->Option (List V)):=Nat.rec ⟨λ_=>some []⟩ (λ_ ih=>⟨λl=>List.rec none (λx xs _=>Option.rec none (λr=>some (x::r)) (ih.f xs)) l⟩) n
def asD(vs:List V):List V->Option (List V):=List.rec (motive:=λ_=>List V->Option (List V)) (λcs=>some cs) (λv _ ih cs=>List.rec none (λ_ cs _=>Option.rec none (λr=>some (v::r)) (ih cs)) cs) vs
def aiZ(n:Nat):W (List V->List V->Option (List V)):=Nat.rec ⟨λcs vs=>asD vs cs⟩ (λ_ ih=>⟨λcs vs=>List.rec (List.rec (motive:=λ_=>Option (List V)) none (λ_ _ _=>none) vs) (λc cs _=>Option.rec none (λr=>some (c::r)) (ih.f cs vs)) cs⟩) n
def arO(l:List V):Nat->Option V:=List.rec (motive:=λ_=>Nat->Option V) (λ_=>none) (λx _ ih n=>Nat.rec (some x) (λm _=>ih m) n) l
def ZK{α:Type}(l:List α):Nat:=List.rec 0 (λ_ _ ih=>Nat.succ ih) l
def Ox(a:List Nat):List Nat->Bool:=List.rec (motive:=λ_=>List Nat->Bool) (λb=>List.rec true (λ_ _ _=>false) b) (λx _ ih b=>List.rec false (λy b _=>Bool.rec false (ih b) (Nat.beq x y)) b) a
def okF(l:List V):Bool:=List.rec true (λv _ ih=>Bool.rec false ih (axD v)) l
def alh{α:Type}(t:T α):Nat->Option α:=T.rec (motive:=λ_=>Nat->Option α) (λ_=>none)
 (λo _ _ l r i=>Nat.rec o (λ_ _=>Bool.rec (r (Nat.sub (Nat.div i 2) 1)) (l (Nat.div i 2)) (Nat.beq (Nat.mod i 2) 1)) i) t
def W9{α:Type}(o:Option α)(n:Nat):T α->Nat->T α:=Nat.rec (motive:=λ_=>T α->Nat->T α) (λt _=>t)
 (λ_ ih t i=>T.rec (motive:=λ_=>T α) (Nat.rec (.node o .leaf .leaf) (λ_ _=>Bool.rec (.node none .leaf (ih .leaf (Nat.sub (Nat.div i 2) 1))) (.node none (ih .leaf (Nat.div i 2)) .leaf) (Nat.beq (Nat.mod i 2) 1)) i)
  (λp l r _ _=>Nat.rec (.node o l r) (λ_ _=>Bool.rec (.node p l (ih r (Nat.sub (Nat.div i 2) 1))) (.node p (ih l (Nat.div i 2)) r) (Nat.beq (Nat.mod i 2) 1)) i) t) n
def Va(h:H)(i:Nat):Option (List V):=Option.rec none (λo=>Obj.rec (λcs=>some cs) (λ_=>none) (λ_=>none) o) (alh h.objs i)
def axp(h:H)(i:Nat)(o:Obj):H:=⟨h.next,W9 (some o) (Nat.succ i) h.objs i⟩
def newF(h:H)(o:Obj):H:=⟨Nat.succ h.next,W9 (some o) (Nat.succ h.next) h.objs h.next⟩
inductive OX where
 |fail
 |ok (v:V) (h:H)
def OX.of(o:OR):OX:=match o with|.fail=>.fail|.ok v _ h=>.ok v h
def ox(o:Option V)(h:H):OX:=Option.rec .fail (λv=>.ok v h) o
def xo(x:aC):W (Fr->V):=match x with
 |.tmp t=>sg t
 |.const v=>⟨λ_=>v⟩
def gY(x:aC)(fr:Fr):aC:=.const ((xo x).f fr)
def Ht(x:Option aC)(fr:Fr):Option aC:=match x with|some x=>some (gY x fr)|none=>none
def Vf(l:List aC)(fr:Fr):List aC:=match l with|[]=>[]|x::l=>gY x fr::Vf l fr
def Yl(l:List (Nat×Nat×aC))(fr:Fr):List (Nat×Nat×aC):=match l with|[]=>[]|(a,b,x)::l=>(a,b,gY x fr)::Yl l fr
def cst(o:oM)(fr:Fr):oM:=match o with
 |.mv x=>.mv (gY x fr)
 |.pick c a b=>.pick (gY c fr) (gY a fr) (gY b fr)
 |.jy z=>.jy z
 |.Gw x=>.Gw (gY x fr)
 |.build z ps=>.build z (Yl ps fr)
 |.lit z a b ps=>.lit z a b (Yl ps fr)
 |.qR a=>.qR (gY a fr)
 |.qI n a=>.qI n (gY a fr)
 |.store n a x=>.store n (gY a fr) (gY x fr)
 |.eq n c x y=>.eq n c (gY x fr) (gY y fr)
 |.bin op x y=>.bin op (gY x fr) (gY y fr)
 |.not x=>.not (gY x fr)
 |.neg x=>.neg (gY x fr)
 |.mM k x=>.mM k (gY x fr)
 |.zN x=>.zN (gY x fr)
 |.Ic x=>.Ic (gY x fr)
 |.nG x=>.nG (gY x fr)
 |.toStr x=>.toStr (gY x fr)
 |.pF t x=>.pF t (gY x fr)
 |.l9 f a b=>.l9 f (Vf a fr) (Vf b fr)
 |.mkMap=>.mkMap
 |.ni z l c=>.ni z (gY l fr) (gY c fr)
 |.rU n x y=>.rU n (gY x fr) (gY y fr)
 |.mkSlice z l c=>.mkSlice z (gY l fr) (gY c fr)
 |.slice s n x l hh m=>.slice s n (gY x fr) (Ht l fr) (Ht hh fr) (Ht m fr)
 |.field a o n x=>.field a o n (gY x fr)
 |.ji n x i=>.ji n (gY x fr) (gY i fr)
 |.index x i=>.index (gY x fr) (gY i fr)
 |.uw a s n x i=>.uw a s n (gY x fr) (gY i fr)
 |.lookup kc z ok m k=>.lookup kc z ok (gY m fr) (gY k fr)
 |.vI kc m k x=>.vI kc (gY m fr) (gY k fr) (gY x fr)
 |.extract i x=>.extract i (gY x fr)
 |.len c x=>.len c (gY x fr)
 |.cap x=>.cap (gY x fr)
 |.max x y=>.max (gY x fr) (gY y fr)
 |.min x y=>.min (gY x fr) (gY y fr)
 |.append n x y=>.append n (gY x fr) (gY y fr)
 |.qE z x n=>.qE z (gY x fr) (gY n fr)
 |.copy n x y=>.copy n (gY x fr) (gY y fr)
 |.clear z x=>.clear z (gY x fr)
 |.qJ x y=>.qJ (gY x fr) (gY y fr)
 |.recover=>.recover
 |_=>.bad
def auK(o:oM):W (Fr->H->OX):=⟨λfr h=>.of (aK 0 (cst o fr) [] [] h)⟩
def OD(v:V)(h:H):Option (List V):=VP.rec none (λi o=>Option.rec none (λcs=>some ((afF o).f cs)) (Va h i)) (λcs=>some cs) (aa8 v)
def awP(v:V):Bool:=V.rec (motive_1:=λ_=>Bool) (motive_2:=λ_=>Unit)
 false (λ_=>true) (λ_ _=>true) (λ_=>true) false (λ_ _=>false) (λ_ _=>true) (λ_ _=>true) true (λ_ _ _=>true) (λ_ _ _ _ _=>true)
 true (λ_=>true) false (λ_ _ _ _ _=>true) false (λ_ _ _=>true) (λ_ _=>true) (λ_ _=>true) () (λ_ _ _ _=>()) v
def aqf(x y:V):Option Bool:=VI.rec (fU x y) (λk a=>VI.rec none (λl b=>Bool.rec none (some (eqF a b)) (Nat.beq (kN k) (kN l))) (Fp y)) (Fp x)
def eqW(neg:Bool)(cls:Nat):W (V->V->H->OX):=match cls with
 |0=>bif neg then⟨λx y h=>Option.rec .fail (λb=>.ok (.bool (Bool.rec true false b)) h) (aqf x y)⟩else⟨λx y h=>Option.rec .fail (λb=>.ok (.bool b) h) (aqf x y)⟩
 |2=>⟨λx y h=>Bool.rec (Bool.rec (.of (zY neg 2 (.const x) (.const y) [] [] h)) .fail (Nu y)) .fail (Nu x)⟩
 |cls=>⟨λx y h=>.of (zY neg cls (.const x) (.const y) [] [] h)⟩
def azJ(cls:Nat):W (V->H->OX):=match cls with
 |0=>⟨λx h=>VL.rec (.of (vN 0 (.const x) [] [] h)) (λl=>.ok (.int .i64 (.ofNat (ZK l))) h) (aa7 x)⟩
 |cls=>⟨λx h=>.of (vN cls (.const x) [] [] h)⟩
def mkW(ag:Bool):W (Option (List V)->Option V):=bif ag then⟨λo=>Option.rec none (λcs=>some (.agg cs)) o⟩else⟨λo=>mk false o⟩
def Z9(o:oM):W (Fr->H->OX):=match o with
 |.mv x=>⟨λfr h=>.ok ((xo x).f fr) h⟩
 |.pick c a b=>⟨λfr h=>VB.rec .fail (λt=>Bool.rec (.ok ((xo b).f fr) h) (.ok ((xo a).f fr) h) t) (JI ((xo c).f fr))⟩
 |.bin op x y=>⟨λfr h=>ox ((apI op).f ((xo x).f fr) ((xo y).f fr)) h⟩
 |.eq n c x y=>⟨λfr h=>(eqW n c).f ((xo x).f fr) ((xo y).f fr) h⟩
 |.not x=>⟨λfr h=>VB.rec .fail (λt=>.ok (.bool (Bool.rec true false t)) h) (JI ((xo x).f fr))⟩
 |.qR a=>⟨λfr h=>Option.rec .fail (λcs=>List.rec .fail (λc _ _=>.ok c h) cs) (OD ((xo a).f fr) h)⟩
 |.qI n a=>⟨λfr h=>Option.rec .fail (λcs=>Option.rec .fail (λr=>.ok (.agg r) h) ((Q9 n).f cs)) (OD ((xo a).f fr) h)⟩
 |.store n a x=>⟨λfr h=>Option.rec .fail (λvs=>Bool.rec .fail (Bool.rec .fail
   (VP.rec .fail (λi o=>Option.rec .fail (λcs=>Option.rec .fail (λcs=>.ok .undef (axp h i (.cells cs))) ((aiZ o).f cs vs)) (Va h i)) (λ_=>.fail) (aa8 ((xo a).f fr)))
   (okF vs)) (Nat.beq (ZK vs) n)) (Ld ((xo x).f fr))⟩
 |.tK x=>⟨λfr h=>Bool.rec .fail (.ok ((xo x).f fr) h) (awP ((xo x).f fr))⟩
 |.fieldAddr off x=>⟨λfr h=>VP.rec .fail (λi o=>.ok (.bg i (Nat.add o off)) h) (λcs=>.ok (.iE ((afF off).f cs)) h) (aa8 ((xo x).f fr))⟩
 |.ji n x i=>⟨λfr h=>VI.rec (.of (iG n (gY x fr) (gY i fr) [] [] h)) (λ_ k=>Int.rec (λk=>VL.rec (.of (iG n (gY x fr) (gY i fr) [] [] h))
   (λl=>Option.rec .fail (λv=>Bool.rec .fail (.ok (.iE v.cells) h) (Nat.beq v.cells.length n)) (arO l k)) (aa7 ((xo x).f fr))) (λ_=>.fail) k) (Fp ((xo i).f fr))⟩
 |.len c x=>⟨λfr h=>(azJ c).f ((xo x).f fr) h⟩
 |.extract i x=>⟨λfr h=>VL.rec .fail (λvs=>Option.rec .fail (λv=>.ok v h) ((amH i).f vs)) (atc ((xo x).f fr))⟩
 |.jy z=>⟨λ_ h=>.ok (.bg h.next 0) (newF h (.cells z))⟩
 |.Gw x=>⟨λfr h=>Option.rec .fail (λcs=>.ok (.bg h.next 0) (newF h (.cells cs))) (Ld ((xo x).f fr))⟩
 |.build z []=>⟨λ_ h=>.ok (.agg z) h⟩
 |o=>auK o
inductive jZ where
 |fail
 |norm (fr:Fr) (bx:Bx) (h:H)
 |jump (j:Jump) (fr:Fr) (bx:Bx) (h:H)
 |val (v:V) (h:H)
structure Cx where
 nt:Nat
 B:Nat
 PT:Nat
 rf:Bool
inductive auX where
 |code (x:Cx) (c:aN)
 |scope (x:Cx) (c r:aN)
 |call (f:Nat) (args:List V)
 |app (f:V) (args:List V)
abbrev Ih2:=auX->Fr->Bx->H->jZ
abbrev K2:=W (Ih2->Fr->Bx->H->jZ)
abbrev Gd:=Option (Nat×Bool)
structure AZ where
 s:Nat
 t:Nat
 o:Nat
 g:Gd
def tq(m s:Nat):Bool:=Nat.beq (Nat.land (Nat.shiftRight m s) 1) 1
def aqz(a b:Gd):Bool:=match a,b with
 |none,none=>true
 |some (s,x),some (t,y)=>Nat.beq s t&&(bif x then y else !y)
 |_,_=>false
def azF(g:Gd):Bool:=match g with|none=>true|some _=>false
def inE(e:List AZ)(g:Gd)(s:Nat):Option (Nat×Nat):=match e with
 |[]=>none
 |x::e=>bif Nat.beq x.s s then(bif azF x.g||aqz x.g g then some (x.t,x.o)else none)else inE e g s
def okT(x:Cx)(t:Nat):Bool:=tq x.B t&&Nat.ble (Nat.succ t) 216
def DR(x:Cx)(e:List AZ)(g:Gd)(a:aC):Option (Nat×Nat):=match a with
 |.tmp s=>bif tq x.B s then(bif okT x s then some (s,0)else none)else bif tq x.PT s then(match inE e g s with|some (t,o)=>(bif okT x t then some (t,o)else none)|none=>none)else none
 |.const _=>none
def QD(x:Cx)(e:List AZ)(g:Gd)(o:oM):Option (Nat×Nat):=match o with
 |.mv a=>DR x e g a
 |.tK a=>DR x e g a
 |.fieldAddr off a=>(match DR x e g a with|some (t,o)=>some (t,o+off)|none=>none)
 |_=>none
def gOf(g:Gd)(d:Nat):Bool:=match g with|some (s,_)=>Nat.beq s d|none=>false
def xP(d:Nat)(e:List AZ):List AZ:=match e with
 |[]=>[]
 |x::e=>bif Nat.beq x.s d||Nat.beq x.t d||gOf x.g d then xP d e else x::xP d e
def Vo(x:Cx)(e:List AZ)(g:Gd)(d:Option Nat)(o:oM):List AZ:=match d with
 |none=>e
 |some d=>match QD x e g o with
  |some (t,off)=>bif Nat.beq t d||gOf g d then xP d e else⟨d,t,off,g⟩::xP d e
  |none=>xP d e
def sN(d:Option Nat)(e:List AZ):List AZ:=match d with|some d=>xP d e|none=>e
def abQ(x:Cx)(e:List AZ)(i:Ins):List AZ:=match i with
 |.op d o=>Vo x e none d o
 |.call d _ _=>sN d e
 |.dyn d _ _=>sN d e
 |.defer _ _ _=>e
 |.grd t b d (.op d' o)=>Vo x (sN d e) (some (t,b)) d' o
 |.grd _ _ d i=>sN d (sN i.dst e)
 |.chk _ _ _=>e
def failK:K2:=⟨λ_ _ _ _=>.fail⟩
def rdS(x:Cx)(s:Nat):Bool:=!(tq x.B s)&&!(tq x.PT s)&&Nat.ble (Nat.succ s) 216
def DT(x:Cx)(l:List Nat):Bool:=match l with|[]=>true|s::l=>rdS x s&&DT x l
def aiK(x:Cx)(d:Option Nat)(k:K2):W (Ih2->Fr->Bx->V->H->jZ):=match d with
 |none=>⟨λih fr bx _ h=>k.f ih fr bx h⟩
 |some d=>bif tq x.B d||!(Nat.ble (Nat.succ d) x.nt)then⟨λ_ _ _ _ _=>.fail⟩else⟨λih fr bx v h=>k.f ih ((ss d).f fr v) bx h⟩
def TV(x:Cx)(d:Nat)(v:V)(k:K2):K2:=bif x.rf then⟨λih fr bx h=>k.f ih ((ss d).f fr v) bx h⟩else k
def ad9(x:Cx)(e:List AZ)(g:Gd)(o:oM):Option (W (Fr->Bx->H->OX)):=match o with
 |.qR a=>(match DR x e g a with
  |some (t,off)=>some ⟨λ_ bx h=>ox ((amH off).f ((sg t).f bx)) h⟩
  |none=>bif DT x (oM.slots (.qR a))then some ⟨λfr _ h=>(Z9 (.qR a)).f fr h⟩else none)
 |.qI n a=>(match DR x e g a with
  |some (t,off)=>bif Nat.beq n 0 then none else some ⟨λ_ bx h=>Option.rec .fail (λr=>.ok (.agg r) h) ((Q9 n).f ((afF off).f ((sg t).f bx)))⟩
  |none=>bif DT x (oM.slots (.qI n a))then some ⟨λfr _ h=>(Z9 (.qI n a)).f fr h⟩else none)
 |o=>bif DT x (oM.slots o)then some ⟨λfr _ h=>(Z9 o).f fr h⟩else none
def noD(d:Option Nat):Bool:=match d with|some _=>false|none=>true
def opV(x:Cx)(e:List AZ)(g:Gd)(d:Option Nat)(o:oM)(k:K2):K2:=match ad9 x e g o with
 |some p=>⟨λih fr bx h=>OX.rec .fail (λv h=>(aiK x d k).f ih fr bx v h) (p.f fr bx h)⟩
 |none=>failK
def opK(x:Cx)(e:List AZ)(g:Gd)(d:Option Nat)(o:oM)(k:K2):K2:=match QD x e g o with
 |some (t,_)=>(match d with
  |some d=>bif tq x.PT d&&!(tq x.B d)&&Nat.ble (Nat.succ d) x.nt then⟨λih fr bx h=>List.rec .fail (λ_ _ _=>(TV x d .undef k).f ih fr bx h) ((sg t).f bx)⟩else failK
  |none=>failK)
 |none=>match o with
  |.alloc z=>(match d with
   |some d=>bif tq x.B d&&Nat.ble (Nat.succ d) x.nt&&Nat.ble (Nat.succ d) 216 then⟨λih fr bx h=>(TV x d .undef k).f ih fr ((ss d).f bx z) h⟩else failK
   |none=>failK)
  |.CJ a=>(match d with
   |some d=>bif tq x.B d&&Nat.ble (Nat.succ d) x.nt&&Nat.ble (Nat.succ d) 216&&DT x a.slots then⟨λih fr bx h=>Option.rec .fail (λcs=>(TV x d .undef k).f ih fr ((ss d).f bx cs) h) (Ld ((xo a).f fr))⟩else failK
   |none=>failK)
  |.store n a y=>(match DR x e g a with
   |some (t,off)=>bif DT x y.slots&&noD d then⟨λih fr bx h=>Option.rec .fail (λvs=>Bool.rec .fail (Bool.rec .fail
     (List.rec .fail (λ_ _ _=>Option.rec .fail (λcs=>k.f ih fr ((ss t).f bx cs) h) ((aiZ off).f ((sg t).f bx) vs)) ((sg t).f bx)) (okF vs)) (Nat.beq (ZK vs) n)) (Ld ((xo y).f fr))⟩else failK
   |none=>opV x e g d (.store n a y) k)
  |.mv a=>bif DT x a.slots then⟨λih fr bx h=>(aiK x d k).f ih fr bx ((xo a).f fr) h⟩else failK
  |o=>opV x e g d o k
def agj(l:List aC):W (Fr->Option (List V)):=List.rec ⟨λ_=>some []⟩ (λx _ ih=>⟨λfr=>Option.rec none (λr=>Bool.rec (some ((xo x).f fr::r)) none (Nu ((xo x).f fr))) (ih.f fr)⟩) l
def acp(x:Cx)(e:List AZ)(g:Gd)(i:Ins)(k:K2):K2:=match i with
 |.op d o=>opK x e g d o k
 |.call d f as=>bif DT x (uI as)then⟨λih fr bx h=>Option.rec .fail (λvs=>jZ.rec .fail (λ_ _ _=>.fail) (λ_ _ _ _=>.fail) (λv h=>(aiK x d k).f ih fr bx v h) (ih (.call f vs) zW bx0 h)) ((agj as).f fr)⟩else failK
 |.dyn d f as=>bif DT x (f.slots++uI as)then⟨λih fr bx h=>Option.rec .fail (λvs=>jZ.rec .fail (λ_ _ _=>.fail) (λ_ _ _ _=>.fail) (λv h=>(aiK x d k).f ih fr bx v h) (ih (.app ((xo f).f fr) vs) zW bx0 h)) ((agj as).f fr)⟩else failK
 |.defer ids f _=>bif DT x f.slots then⟨λih fr bx h=>Bool.rec .fail (k.f ih fr bx h) (IZ ids ((xo f).f fr))⟩else failK
 |_=>failK
inductive G3 where
 |fail
 |yes
 |no
def ag2(b:Bool)(v:V):G3:=VB.rec (VL.rec .fail (λl=>List.rec .no (λ_ _ _=>.fail) l) (atc v)) (λc=>Bool.rec (Bool.rec .yes .no b) (Bool.rec .no .yes b) c) (JI v)
def elseK(x:Cx)(d:Option Nat)(k:K2):K2:=match d with
 |none=>k
 |some d=>bif !(Nat.ble (Nat.succ d) x.nt&&Nat.ble (Nat.succ d) 216)then failK
  else bif tq x.B d then⟨λih fr bx h=>(TV x d (.tuple []) k).f ih fr ((ss d).f bx []) h⟩
  else⟨λih fr bx h=>k.f ih ((ss d).f fr (.tuple [])) bx h⟩
def eqX(l:V):V->Bool:=V.rec (motive_1:=λ_=>V->Bool) (motive_2:=λ_=>List V->Bool)
 (λ_=>false)
 (λa y=>match y with|.bool b=>(bif a then b else !b)|_=>false)
 (λk a y=>match y with|.int l b=>eqK k l&&sK a b|_=>false)
 (λa y=>match y with|.str b=>Ox a b|_=>false)
 (λy=>match y with|.nilPtr=>true|_=>false)
 (λ_ _ _=>false)
 (λa b y=>match y with|.bg c d=>Nat.beq a c&&Nat.beq b d|_=>false)
 (λ_ ih y=>match y with|.iE b=>ih b|_=>false)
 (λy=>match y with|.aj=>true|_=>false)
 (λ_ x ih y=>match y with|.list b z=>(bif x then z else !z)&&ih b|_=>false)
 (λa b c x d y=>match y with|.hsl a' b' c' x' d'=>Nat.beq a a'&&Nat.beq b b'&&Nat.beq c c'&&Nat.beq d d'&&eqO x x'|_=>false)
 (λy=>match y with|.fA=>true|_=>false)
 (λa y=>match y with|.map b=>Nat.beq a b|_=>false)
 (λy=>match y with|.nilFunc=>true|_=>false)
 (λfn _ _ iha ihb y=>match fn,y with|.func f,.func (.func g) c d=>Nat.beq f g&&iha c&&ihb d|_,_=>false)
 (λy=>match y with|.nilIface=>true|_=>false)
 (λt _ ih y=>match y with|.iface u b=>Nat.beq t u&&ih b|_=>false)
 (λ_ ih y=>match y with|.agg b=>ih b|_=>false)
 (λ_ ih y=>match y with|.tuple b=>ih b|_=>false)
 (λys=>match ys with|[]=>true|_::_=>false)
 (λ_ _ ihv ihl ys=>match ys with|[]=>false|y::ys=>bif ihv y then ihl ys else false) l
def apP(x:Cx)(e:List AZ)(g:Gd)(t:Nat)(o:oM)(k:K2):K2:=bif rdS x t then(match ad9 x e g o with
 |some p=>⟨λih fr bx h=>OX.rec .fail (λv _=>Bool.rec .fail (k.f ih fr bx h) (eqX v ((sg t).f fr))) (p.f fr bx h)⟩
 |none=>failK)else failK
def avm(x:Cx)(e:List AZ)(g:Gd)(t:Nat)(o:oM)(k:K2):K2:=match g with
 |none=>apP x e none t o k
 |some (s,b)=>bif rdS x s&&rdS x t then⟨λih fr bx h=>G3.rec .fail ((apP x e (some (s,b)) t o k).f ih fr bx h) (Bool.rec .fail (k.f ih fr bx h) (eqX (.tuple []) ((sg t).f fr))) (ag2 b ((sg s).f fr))⟩else failK
def aaS(x:Cx)(dr:Bool)(e:List AZ)(i:Ins)(k:K2):K2:=match i with
 |.grd t b d i=>bif rdS x t then⟨λih fr bx h=>G3.rec .fail ((acp x (sN d e) (some (t,b)) i k).f ih fr bx h) ((elseK x d k).f ih fr bx h) (ag2 b ((sg t).f fr))⟩else failK
 |.chk g t o=>bif dr then avm x e g t o k else failK
 |i=>acp x e none i k
def awO:K2:=⟨λ_ fr bx h=>.norm fr bx h⟩
def li(x:Cx)(dr:Bool)(l:List Ins):List AZ->K2:=List.rec (motive:=λ_=>List AZ->K2) (λ_=>awO) (λi _ ih e=>aaS x dr e i (ih (abQ x e i))) l
def awk(id:Nat)(j:Jump)(fr:Fr)(bx:Bx)(h:H):jZ:=Jump.rec (.jump j fr bx h) (λi=>Bool.rec (.jump j fr bx h) (.norm fr bx h) (Nat.beq i id)) (λ_=>.jump j fr bx h) j
def Nk(v:V):V:=match v with|.aY _ _=>.undef|v=>v
def azQ(n:Nat)(fr:Fr):List V:=Nat.rec (motive:=λ_=>Nat->List V) (λ_=>[]) (λ_ ih i=>Nk ((sg i).f fr)::ih (Nat.succ i)) n 0
def Jp(l:List V)(i:Nat):X6 V:=⟨aA l i,aA l (i+1),aA l (i+2),aA l (i+3),aA l (i+4),aA l (i+5)⟩
def Nl(l:List V)(i:Nat):X6 (X6 V):=⟨Jp l i,Jp l (i+6),Jp l (i+12),Jp l (i+18),Jp l (i+24),Jp l (i+30)⟩
def ofL(l:List V):Fr:=⟨Nl l 0,Nl l 36,Nl l 72,Nl l 108,Nl l 144,Nl l 180⟩
def ae2(l:Nat)(fr:Fr)(bx:Bx)(o:jZ):jZ:=match o with
 |.val _ h=>(match getLoop h l with
  |some lp=>bif Nat.beq lp.st 1 then .fail else(match lp.pending with
   |none=>.norm fr bx (h.del l)
   |some j=>.jump j fr bx (h.del l))
  |none=>.fail)
 |_=>.fail
def adv(x:Cx)(f:aC)(ps:List Nat)(a b:aN):K2:=bif DT x f.slots&&Nat.ble x.nt 216&&x.rf then⟨λih fr bx h=>match(xo f).f fr with
 |.func (.func q) first caps=>ae2 h.next fr bx (ih (.call q (first++(.func (.yield h.next) [] []::caps))) zW bx0 (h.new (.loop ⟨0,none,azQ x.nt fr,ps,a,b⟩)))
 |_=>.fail⟩else failK
def cc(x:Cx)(c:aN):K2:=aN.rec (motive:=λ_=>K2)
 awO
 (λops=>li x false ops [])
 (λops=>li x true ops [])
 (λ_ _ ka kb=>⟨λih fr bx h=>jZ.rec .fail (λfr bx h=>kb.f ih fr bx h) (λj fr bx h=>.jump j fr bx h) (λ_ _=>.fail) (ka.f ih fr bx h)⟩)
 (λc _ _ ka kb=>bif DT x c.slots then⟨λih fr bx h=>VB.rec .fail (λt=>Bool.rec (kb.f ih fr bx h) (ka.f ih fr bx h) t) (JI ((xo c).f fr))⟩else failK)
 (λid _ k=>⟨λih fr bx h=>jZ.rec .fail (λfr bx h=>.norm fr bx h) (λj fr bx h=>awk id j fr bx h) (λ_ _=>.fail) (k.f ih fr bx h)⟩)
 (λc k=>⟨λih fr bx h=>jZ.rec .fail (λfr bx h=>ih (.code x (.loop c)) fr bx h) (λj fr bx h=>.jump j fr bx h) (λ_ _=>.fail) (k.f ih fr bx h)⟩)
 (λf ps a b _ _=>adv x f ps a b)
 (λid=>⟨λ_ fr bx h=>.jump (.exit id) fr bx h⟩)
 (λc _=>⟨λih fr bx h=>ih (.scope x c c) fr bx h⟩)
 (λ_=>awO)
 (λl=>⟨λ_ fr bx h=>.jump (.goto l) fr bx h⟩)
 ⟨λ_ fr bx h=>.jump .ret fr bx h⟩ c
def anL(x:Cx)(c r:aN):K2:=⟨λih fr bx h=>jZ.rec .fail (λfr bx h=>.norm fr bx h)
 (λj fr bx h=>Jump.rec (.jump j fr bx h) (λ_=>.jump j fr bx h) (λl=>match findLabel c l with|some r=>ih (.scope x c r) fr bx h|none=>.jump j fr bx h) j) (λ_ _=>.fail) ((cc x r).f ih fr bx h)⟩
def XZ(m d:Nat):Nat:=Nat.lor m (Nat.shiftLeft 1 d)
def ptS(B PT:Nat)(a:aC):Bool:=match a with|.tmp s=>tq B s||tq PT s|_=>false
def auI(d:Nat)(o:oM)(x:Nat×Nat):Nat×Nat:=match o with
 |.alloc _=>(XZ x.1 d,x.2)
 |.CJ _=>(XZ x.1 d,x.2)
 |.mv a=>bif ptS x.1 x.2 a then(x.1,XZ x.2 d)else x
 |.tK a=>bif ptS x.1 x.2 a then(x.1,XZ x.2 d)else x
 |.fieldAddr _ a=>bif ptS x.1 x.2 a then(x.1,XZ x.2 d)else x
 |_=>x
def aAv(i:Ins)(x:Nat×Nat):Nat×Nat:=match i with
 |.op (some d) o=>auI d o x
 |.grd _ _ _ (.op (some d) o)=>auI d o x
 |_=>x
def anK(l:List Ins)(x:Nat×Nat):Nat×Nat:=match l with|[]=>x|i::l=>anK l (aAv i x)
def BX(c:aN)(x:Nat×Nat):Nat×Nat:=match c with
 |.region l=>anK l x
 |.draw l=>anK l x
 |.seq a b=>BX b (BX a x)
 |.cond _ a b=>BX b (BX a x)
 |.block _ c=>BX c x
 |.loop c=>BX c x
 |.scope c=>BX c x
 |_=>x
def Bq(c:aN):Bool:=match c with
 |.rangeFunc _ _ _ _=>true
 |.seq a b=>Bq a||Bq b
 |.cond _ a b=>Bq a||Bq b
 |.block _ c=>Bq c
 |.loop c=>Bq c
 |.scope c=>Bq c
 |_=>false
def agD(nt:Nat)(c:aN):Cx:=match BX c (0,0)with|(b,p)=>⟨nt,b,p,Bq c⟩
def auv:W (Fr->Bx->H->Option (List V)):=⟨λ_ _ _=>none⟩
def aap(x:Cx)(rs:List (Nat×Bool×Bool×Nat)):W (Fr->Bx->H->Option (List V)):=match rs with
 |[]=>⟨λ_ _ _=>some []⟩
 |(t,PO,ag,sz)::r=>bif PO
  then(bif okT x t
   then⟨λfr bx h=>List.rec none (λc cs _=>Option.rec none (λv=>Bool.rec (Option.rec none (λvs=>some (v::vs)) ((aap x r).f fr bx h)) none (UO v)) ((mkW ag).f ((Q9 sz).f (c::cs)))) ((sg t).f bx)⟩
   else bif rdS x t then⟨λfr bx h=>Option.rec none (λcs=>Option.rec none (λv=>Bool.rec (Option.rec none (λvs=>some (v::vs)) ((aap x r).f fr bx h)) none (UO v)) ((mkW ag).f ((Q9 sz).f cs))) (OD ((sg t).f fr) h)⟩else auv)
  else bif rdS x t then⟨λfr bx h=>Bool.rec (Option.rec none (λvs=>some ((sg t).f fr::vs)) ((aap x r).f fr bx h)) none (UO ((sg t).f fr))⟩else auv
def sU(l:List V):Bool:=List.rec true (λv _ ih=>Bool.rec false ih (Fv v)) l
def ayJ(fz:Bool):W (List V->H->jZ):=bif fz
 then⟨λvs h=>Bool.rec (match qo (dI vs) h with|(v,h)=>.val v h) (.val (dI vs) h) (sU vs)⟩
 else⟨λvs h=>.val (dI vs) h⟩
def ac4(x:Cx)(vf:bF):W (Fr->Bx->H->jZ):=⟨λfr bx h=>Option.rec .fail (λvs=>(ayJ vf.qo).f vs h) ((aap x vf.results).f fr bx h)⟩
def alF(as:List V):Fr:=⟨⟨Jp as 0,Jp as 6,sW .undef,sW .undef,sW .undef,sW .undef⟩,sW (sW .undef),sW (sW .undef),sW (sW .undef),sW (sW .undef),sW (sW .undef)⟩
def KQ(o:Out):jZ:=match o with|.val v h=>.val v h|_=>.fail
def aes(vf:bF)(x:Cx):W (Ih2->List V->H->jZ):=bif Nat.beq vf.ext 0
 then(bif Nat.ble vf.nt 216 then⟨λih as h=>Bool.rec .fail (jZ.rec .fail (λfr bx h=>(ac4 x vf).f fr bx h) (λj fr bx h=>Jump.rec ((ac4 x vf).f fr bx h) (λ_=>.fail) (λ_=>.fail) j) (λ_ _=>.fail) ((cc x vf.body).f ih (alF as) bx0 h)) (Nat.ble (ZK as) 12&&Nat.ble (ZK as) vf.nt)⟩else⟨λ_ _ _=>.fail⟩)
 else⟨λ_ as h=>KQ (ext vf.ext as h)⟩
def ajT(mm:eF)(fns:Nat->Option bF)(f:Nat):W (Ih2->List V->H->jZ):=match fns f with
 |none=>(match mm f with
  |none=>⟨λ_ _ _=>.fail⟩
  |some m=>⟨λ_ as h=>Option.rec .fail (λv=>.val v h) (m.f as)⟩)
 |some vf=>match mm f with
  |none=>aes vf (agD vf.nt vf.body)
  |some m=>⟨λih as h=>Option.rec ((aes vf (agD vf.nt vf.body)).f ih as h) (λv=>.val v h) (m.f as)⟩
def aeg(ih:Ih2)(l:Nat)(args:List V)(h:H):jZ:=match getLoop h l with
 |some lp=>(match xW lp.params args lp.fr with
  |some fr=>bif Nat.beq lp.st 0&&Nat.ble fr.length 216 then(match BX lp.body (BX lp.assign (0,0))with
   |(b,p)=>(match(cc ⟨fr.length,b,p,Bq lp.body⟩ lp.assign).f ih (ofL fr) bx0 h with
    |.norm aB bx h=>(match getLoop h l with
     |some lp2=>bif Nat.beq lp2.st 0 then(match(cc ⟨fr.length,b,p,Bq lp.body⟩ lp.body).f ih aB bx (setSt l 1 lp2.pending lp2 h)with
      |.norm _ _ h=>(match getLoop h l with|some lp=>.val (.bool true) (setSt l 0 none lp h)|none=>.fail)
      |.jump j _ _ h=>(match getLoop h l with|some lp=>.val (.bool false) (setSt l 2 (some j) lp h)|none=>.fail)
      |_=>.fail)else .fail
     |none=>.fail)
    |_=>.fail))else .fail
  |none=>.fail)
 |none=>.fail
def ayt(ih:Ih2)(f:V)(args:List V)(h:H):jZ:=match f with
 |.func (.func g) first caps=>ih (.call g (first++(args++caps))) zW bx0 h
 |.func (.yield l) [] _=>aeg ih l args h
 |_=>.fail
def auL(mm:eF)(fns:Nat->Option bF)(ih:Ih2)(c:auX):Fr->Bx->H->jZ:=auX.rec
 (λx c=>(cc x c).f ih) (λx c r=>(anL x c r).f ih) (λf as _ _ h=>(ajT mm fns f).f ih as h) (λf as _ _ h=>ayt ih f as h) c
def nZ(mm:eF)(fns:Nat->Option bF)(n:Nat):Ih2:=Nat.rec (λ_ _ _ _=>.fail) (λ_ ih=>auL mm fns ih) n
def nY(o:jZ)(v:V):Bool:=jZ.rec false (λ_ _ _=>false) (λ_ _ _ _=>false) (λu _=>lZ u v) o
end
end
section
open Go
def ald{α:Type}(q:X6 α)(v:α){a b:Nat}(ha:a<6)(hb:b<6):(g6 a).f ((s6 b).f q v)=if a=b then v else(g6 a).f q:=by
 obtain⟨q1,q2,q3,q4,q5,q6⟩:=q;have h1:a=0\/a=1\/a=2\/a=3\/a=4\/a=5:=by omega
 have h2:b=0\/b=1\/b=2\/b=3\/b=4\/b=5:=by omega
 rcases h1 with rfl|rfl|rfl|rfl|rfl|rfl<;>rcases h2 with rfl|rfl|rfl|rfl|rfl|rfl<;>rfl
def auJ{α:Type}(fr:X6 (X6 (X6 α)))(v:α){i j:Nat}(hi:i<216)(hj:j<216):(sg i).f ((ss j).f fr v)=if i=j then v else(sg i).f fr:=by
 have e1:i / 36<6:=by omega
 have e2:j / 36<6:=by omega
 have e3:i / 6%6<6:=by omega
 have e4:j / 6%6<6:=by omega
 have e5:i%6<6:=by omega
 have e6:j%6<6:=by omega
 simp only[sg,ss];rw[ald _ _ e1 e2];by_cases h1:i / 36=j / 36
 .rw[if_pos h1,ald _ _ e3 e4];by_cases h2:i / 6%6=j / 6%6
  .rw[if_pos h2,ald _ _ e5 e6,h1,h2];by_cases h3:i%6=j%6
   .rw[if_pos h3,if_pos (by omega)]
   .rw[if_neg h3,if_neg (by omega)]
  .rw[if_neg h2,h1,if_neg (by omega)]
 .rw[if_neg h1,if_neg (by omega)]
def Gt{α:Type}(fr:X6 (X6 (X6 α)))(v:α){i:Nat}(hi:i<216):(sg i).f ((ss i).f fr v)=v:=by rw[auJ fr v hi hi,if_pos rfl]
def BZ{α:Type}(fr:X6 (X6 (X6 α)))(v:α){i j:Nat}(hi:i<216)(hj:j<216)(h:i≠j):(sg i).f ((ss j).f fr v)=(sg i).f fr:=by rw[auJ fr v hi hj,if_neg h]
def avL{α:Type}(x:α)(i:Nat):(g6 i).f (sW x)=x:=by
 match i with
 |0|1|2|3|4|_+5=>rfl
def axq{α:Type}(x:α)(i:Nat):(sg i).f (sW (sW (sW x)))=x:=by simp only[sg,avL]
def aic{α:Type}{k:α->jZ}{o:Option α}{r:jZ}(h:(Option.rec (motive:=λ_=>jZ) .fail k o)=r)(hn:r≠.fail):∃a,o=some a/\k a=r:=by
 cases o with
 |none=>exact absurd h.symm hn
 |some a=>exact⟨a,rfl,h⟩
def SS{b:Bool}{k r:jZ}(h:(Bool.rec (motive:=λ_=>jZ) .fail k b)=r)(hn:r≠.fail):b=true/\k=r:=by
 cases b with
 |false=>exact absurd h.symm hn
 |true=>exact⟨rfl,h⟩
def oxR{k:V->H->jZ}{o:OX}{r:jZ}(h:(OX.rec (motive:=λ_=>jZ) .fail k o)=r)(hn:r≠.fail):∃v h,o=.ok v h/\k v h=r:=by
 cases o with
 |fail=>exact absurd h.symm hn
 |ok a b=>exact⟨a,b,rfl,h⟩
def Qx{α:Type}{k:α->OX}{o:Option α}{v:V}{h':H}(h:(Option.rec (motive:=λ_=>OX) .fail k o)=.ok v h'):∃a,o=some a/\k a=.ok v h':=by
 cases o with
 |none=>cases h
 |some a=>exact⟨a,rfl,h⟩
def aew{b:Bool}{k:OX}{v:V}{h':H}(h:(Bool.rec (motive:=λ_=>OX) .fail k b)=.ok v h'):b=true/\k=.ok v h':=by
 cases b with
 |false=>cases h
 |true=>exact⟨rfl,h⟩
def Fq{v:V}{k:IntKind}{n:Int}(h:Fp v=.yes k n):v=.int k n:=by
 cases v<;>first|(cases h;done)|(cases h;rfl)
def Lc{v:V}{b:Bool}(h:JI v=.yes b):v=.bool b:=by
 cases v<;>first|(cases h;done)|(cases h;rfl)
def UN{v:V}{l:List V}(h:aa7 v=.yes l):∃e,v=.list l e:=by
 cases v<;>first|(cases h;done)|(cases h;exact⟨_,rfl⟩)
def aop{v:V}{l:List V}(h:atc v=.yes l):v=.tuple l:=by
 cases v<;>first|(cases h;done)|(cases h;rfl)
def Le{v:V}{i o:Nat}(h:aa8 v=.heap i o):v=.bg i o:=by
 cases v<;>first|(cases h;done)|(cases h;rfl)
def UQ{v:V}{cs:List V}(h:aa8 v=.ak7 cs):v=.iE cs:=by
 cases v<;>first|(cases h;done)|(cases h;rfl)
def aa6{v:V}{cs:List V}(h:Ld v=some cs):(∀t o,v≠.aY t o)/\v≠.undef/\v.cells=cs:=by
 cases v<;>first|(cases h;done)|(cases h;exact⟨λ_ _ h=>(by cases h),λh=>(by cases h),rfl⟩)
def ad8{v:V}(h:Nu v=false):∀t o,v≠.aY t o:=by
 cases v<;>first|(cases h;done)|exact λ_ _ h=>by cases h
def aoo(v:V):UO v=bK v:=by cases v<;>rfl
def atb(v:V):axD v=qW v:=by cases v<;>rfl
def okF_eq:∀l:List V,okF l=bf l
 |[]=>rfl
 |v::l=>by
  have:okF (v::l)=Bool.rec false (okF l) (axD v):=rfl;rw[this,okF_eq l,atb];simp only[bf];cases qW v<;>rfl
def Ja{α:Type}:∀l:List α,ZK l=l.length
 |[]=>rfl
 |x::l=>by
  have:ZK (x::l)=Nat.succ (ZK l):=rfl;rw[this,Ja l];rfl
def Jt:∀(n:Nat) (l:List V),(afF n).f l=skip n l
 |0,_=>rfl
 |n+1,[]=>rfl
 |n+1,_::l=>Jt n l
def Fe:∀(n:Nat) (l:List V),(Q9 n).f l=takeN n l
 |0,_=>rfl
 |n+1,[]=>rfl
 |n+1,x::l=>by
  have:(Q9 (n+1)).f (x::l)=Option.rec none (λr=>some (x::r)) ((Q9 n).f l):=rfl;rw[this,Fe n l];simp only[takeN];cases takeN n l<;>rfl
def WC:∀(n:Nat) (l:List V),(amH n).f l=ng n l
 |0,[]=>rfl
 |0,x::l=>rfl
 |n+1,[]=>rfl
 |n+1,_::l=>by
  have:(amH (n+1)).f (‹V›::l)=(amH n).f l:=rfl;rw[this,WC n l];rfl
def afn:∀(l:List V) (n:Nat),arO l n=ng n l
 |[],0=>rfl
 |[],n+1=>rfl
 |x::l,0=>rfl
 |x::l,n+1=>by
  have:arO (x::l) (n+1)=arO l n:=rfl;rw[this,afn l n];rfl
def afG:∀(vs cs:List V),asD vs cs=bC cs vs
 |[],[]=>rfl
 |[],_::_=>rfl
 |_::_,[]=>rfl
 |v::vs,c::cs=>by
  have:asD (v::vs) (c::cs)=Option.rec none (λr=>some (v::r)) (asD vs cs):=rfl;rw[this,afG vs cs];simp only[bC];cases bC cs vs<;>rfl
def afH:∀(n:Nat) (cs vs:List V),vs≠[]\/cs≠[]\/n=0->(aiZ n).f cs vs=splice n cs vs
 |0,cs,vs,_=>afG vs cs
 |n+1,[],[],h=>by simp at h
 |n+1,[],_::_,_=>rfl
 |n+1,c::cs,vs,_=>by
  have e:(aiZ (n+1)).f (c::cs) vs=Option.rec none (λr=>some (c::r)) ((aiZ n).f cs vs):=rfl;by_cases h:vs≠[]\/cs≠[]\/n=0
  .rw[e,afH n cs vs h];simp only[splice];cases splice n cs vs<;>rfl
  .simp only[not_or,Decidable.not_not]at h;obtain⟨rfl,rfl,hn⟩:=h;cases n with
   |zero=>exact absurd rfl hn
   |succ n=>rfl
def UD{n:Nat}{cs vs r:List V}(h:(aiZ n).f cs vs=some r):splice n cs vs=some r:=by
 by_cases hq:vs≠[]\/cs≠[]\/n=0
 .rw[<- afH n cs vs hq];exact h
 .simp only[not_or,Decidable.not_not]at hq;obtain⟨rfl,rfl,hn⟩:=hq;cases n with
  |zero=>exact absurd rfl hn
  |succ n=>cases h
def SV:∀a b:List Nat,Ox a b=mW a b
 |[],[]=>rfl
 |[],_::_=>rfl
 |_::_,[]=>rfl
 |x::a,y::b=>by
  have:Ox (x::a) (y::b)=Bool.rec false (Ox a b) (Nat.beq x y):=rfl;rw[this,SV a b];simp only[mW];cases Nat.beq x y<;>rfl
def VN{α:Type}:∀(t:T α) (i:Nat),alh t i=t.get i
 |.leaf,i=>rfl
 |.node o l r,0=>rfl
 |.node o l r,i+1=>by
  have:alh (.node o l r) (i+1)=Bool.rec (alh r ((i+1) / 2-1)) (alh l ((i+1) / 2)) (Nat.beq ((i+1)%2) 1):=rfl;rw[this,VN l,VN r];simp only[T.get];have:Nat.beq (i+1) 0=false:=rfl;rw[this];cases Nat.beq ((i+1)%2) 1<;>rfl
def Gq{α:Type}(o:Option α):∀(n:Nat) (t:T α) (i:Nat),W9 o n t i=T.oI o n t i
 |0,t,i=>rfl
 |n+1,.leaf,0=>rfl
 |n+1,.leaf,i+1=>by
  have:W9 o (n+1) .leaf (i+1)=Bool.rec (.node none .leaf (W9 o n .leaf ((i+1) / 2-1))) (.node none (W9 o n .leaf ((i+1) / 2)) .leaf) (Nat.beq ((i+1)%2) 1):=rfl;rw[this,Gq o n,Gq o n];simp only[T.oI];have:Nat.beq (i+1) 0=false:=rfl;rw[this];cases Nat.beq ((i+1)%2) 1<;>rfl
 |n+1,.node p l r,0=>rfl
 |n+1,.node p l r,i+1=>by
  have:W9 o (n+1) (.node p l r) (i+1)=Bool.rec (.node p l (W9 o n r ((i+1) / 2-1))) (.node p (W9 o n l ((i+1) / 2)) r) (Nat.beq ((i+1)%2) 1):=rfl;rw[this,Gq o n,Gq o n];simp only[T.oI];have:Nat.beq (i+1) 0=false:=rfl;rw[this];cases Nat.beq ((i+1)%2) 1<;>rfl
def S9(h:H)(i:Nat):Va h i=getCells h i:=by
 simp only[Va,getCells,H.get,VN];cases h.objs.get i with
 |none=>rfl
 |some o=>cases o<;>rfl
def asx(h:H)(i:Nat)(o:Obj):axp h i o=h.set i o:=by simp only[axp,H.set,T.put,Gq]
def afi(h:H)(o:Obj):newF h o=h.new o:=by simp only[newF,H.new,T.put,Gq]
def aup{a b:IntKind}:Nat.beq (kN a) (kN b)=eqK a b:=by cases a<;>cases b<;>rfl
def apw(a b:Int):au7 a b=a+b:=by cases a<;>cases b<;>rfl
def asQ(a b:Int):axt a b=a-b:=by
 cases a with
 |negSucc m=>rfl
 |ofNat m=>cases b with
  |negSucc n=>rfl
  |ofNat n =>
   have:axt (.ofNat m) (.ofNat n)=Bool.rec (Int.sub (.ofNat m) (.ofNat n)) (.ofNat (m-n)) (Nat.ble n m):=rfl;rw[this];cases hq:Nat.ble n m with
   |false=>rfl
   |true =>
    have:=jA hq;simp only[lJ];omega
def Ws(a b:Int):ltF a b=wX a b:=by cases a<;>cases b<;>rfl
def avv(a b:Int):eqF a b=sK a b:=by cases a<;>cases b<;>rfl
def cnd{α:Type}(m N:Nat)(a b:α):(Bool.rec (motive:=λ_=>α) b a (Nat.ble (Nat.succ m) N))=bif Nat.blt m N then a else b:=by
 show(Bool.rec (motive:=λ_=>α) b a (Nat.ble (Nat.succ m) N))=cond (Nat.ble (Nat.succ m) N) a b;cases Nat.ble (Nat.succ m) N<;>rfl
def aoZ(k:IntKind)(n:Int):(wrW k).f n=xZ k n:=by
 cases k with
 |i64=>cases n with
  |ofNat m=>exact cnd m _ _ _
  |negSucc m=>exact cnd m _ _ _
 |_=>cases n<;>simp only[wrW,xZ]
def axB{R:IntKind->Int->Int->Option V}{x y v:V}(h:two R x y=some v):∃k a b,x=.int k a/\y=.int k b/\R k a b=some v:=by
 simp only[two]at h;cases hx:Fp x with
 |no=>rw[hx]at h;cases h
 |yes k a =>
  rw[hx]at h;dsimp only at h;cases hy:Fp y with
  |no=>rw[hy]at h;cases h
  |yes l b =>
   rw[hy]at h;dsimp only at h;cases hk:Nat.beq (kN k) (kN l)with
   |false=>rw[hk]at h;cases h
   |true =>
    rw[hk]at h;rw[aup,l7,decide_eq_true_eq]at hk;subst hk;exact⟨k,a,b,Fq hx,Fq hy,h⟩
def apJ{op:BinOp}{x y v:V}(h:(apI op).f x y=some v):cO op x y=some v:=by
 have t1:∀{R:IntKind->Int->Int->Option V} {F:V->V->Option V},(∀k a b,F (.int k a) (.int k b)=R k a b)->two R x y=some v->F x y=some v:=by
  intro R F hF h;obtain⟨k,a,b,e1,e2,h⟩:=axB h;rw[e1,e2,hF,h]
 cases op with
 |lss =>
  simp only[apI]at h;cases hx:Fp x with
  |no=>rw[hx]at h;exact h
  |yes k a =>
   rw[hx]at h;refine t1 (R:=λ_ a b=>some (.bool (ltF a b))) (F:=cO .lss) (λk a b=>by simp[cO,eH,dD,l7,Ws]) ?_;simp only[two];rw[hx];exact h
 |add =>
  simp only[apI]at h;cases hx:Fp x with
  |no=>rw[hx]at h;exact h
  |yes k a =>
   rw[hx]at h;refine t1 (R:=λk a b=>some (.int k ((wrW k).f (au7 a b)))) (F:=cO .add) (λk a b=>by simp[cO,iK,mV,l7,apw,aoZ];try rfl) ?_;simp only[two];rw[hx];exact h
 |leq=>exact t1 (F:=cO .leq) (λk a b=>by simp[cO,dD,l7,leI,Ws]) h
 |gtr=>exact t1 (F:=cO .gtr) (λk a b=>by simp[cO,dD,l7,Ws]) h
 |geq=>exact t1 (F:=cO .geq) (λk a b=>by simp[cO,dD,l7,leI,Ws]) h
 |sub=>exact t1 (F:=cO .sub) (λk a b=>by simp[cO,mV,l7,asQ,aoZ];try rfl) h
 |_=>exact h
def aeH{x y:V}{b:Bool}(h:aqf x y=some b):fU x y=some b:=by
 simp only[aqf]at h;cases hx:Fp x with
 |no=>rw[hx]at h;exact h
 |yes k a =>
  rw[hx]at h;dsimp only at h;cases hy:Fp y with
  |no=>rw[hy]at h;cases h
  |yes l c =>
   rw[hy]at h;dsimp only at h;cases hk:Nat.beq (kN k) (kN l)with
   |false=>rw[hk]at h;cases h
   |true =>
    rw[hk]at h;rw[aup]at hk;rw[Fq hx,Fq hy];simp only[fU,hk,cond_true,<- avv];exact h
end
section
open Go
def RV(a b:V):Prop:=a=b\/((∃t o,a=.aY t o)/\b=.undef)
def Gx(fr:List V):Gd->Prop
 |none=>True
 |some (s,b)=>aA fr s=.bool b
structure RX (x:Cx)(e:List AZ)(aB:Fr)(bx:Bx)(fr:List V)(lo:Lo):Prop where
 cap:x.nt<=216
 len:fr.length=x.nt
 val:∀s,rdS x s=true->RV ((sg s).f aB) (aA fr s)
 box:∀t,t<216->tq x.B t=true->(sg t).f bx≠[]->aA fr t=.aY t 0/\dA lo t=some ((sg t).f bx)
 ent:∀n∈e,Gx fr n.g->aA fr n.s=.aY n.t n.o
 mrk:x.rf=true->∀s,s<216->Nk ((sg s).f aB)=Nk (aA fr s)
def RO(aB:Fr)(fr:List V)(x:aC):Prop:=RV ((xo x).f aB) (x.ev fr)
def og{x:Cx}:∀{a b:List Nat},DT x (a++b)=true->DT x a=true/\DT x b=true
 |[],b,h=>⟨rfl,h⟩
 |s::a,b,h=>by
  simp only[dZ,DT,ah]at h|-;have:=og h.2;exact⟨⟨h.1,this.1⟩,this.2⟩
variable {x:Cx}{e:List AZ}{aB uq:Fr}{bx bx':Bx}{fr fr':List V}{lo lo':Lo}{h h':H}{v:V}
def RX.ro(r:RX x e aB bx fr lo){a:aC}(ha:DT x a.slots=true):RO aB fr a:=by
 cases a with
 |const v=>exact .inl rfl
 |tmp s =>
  simp only[aC.slots,DT,cZ]at ha;exact r.val s ha
def RX.ros(r:RX x e aB bx fr lo):∀{l:List aC},DT x (uI l)=true->∀a∈l,RO aB fr a
 |[],_,_,h=>by cases h
 |y::l,hl,a,h=>by
  simp only[uI]at hl;have:=og hl;rcases bU.1 h with rfl|h
  .exact r.ro this.1
  .exact r.ros this.2 a h
def RX.rop(r:RX x e aB bx fr lo):∀{l:List (Nat×Nat×aC)},DT x (QU l)=true->∀a∈l,RO aB fr a.2.2
 |[],_,_,h=>by cases h
 |(_,_,y)::l,hl,a,h=>by
  simp only[QU]at hl;have:=og hl;rcases bU.1 h with rfl|h
  .exact r.ro this.1
  .exact r.rop this.2 a h
def ofX{o:OR}{v:V}{h':H}(hq:OX.of o=.ok v h'):∃l,o=.ok v l h':=by
 cases o with
 |fail=>cases hq
 |ok a b c=>cases hq;exact⟨_,rfl⟩
def vY(F:Lo->H->OR):Prop:=∀lo lo' h v l h',F lo h=.ok v l h'->F lo' h=.ok v lo' h'
def vY.eU(o:Option V):vY (λlo h=>OR.eU o lo h):=by
 intro lo lo' h v l h' e;cases o with
 |none=>cases e
 |some a=>simp only[OR.eU]at e|-;cases e;rfl
def auC{o:Option V}{h:H}{v:V}{h':H}(e:ox o h=.ok v h'):o=some v/\h=h':=by
 cases o with
 |none=>cases e
 |some a=>cases e;exact⟨rfl,rfl⟩
def Tj(cs:List V)(off sz:Nat)(y:aC)(ps:List (Nat×Nat×aC))(fr:List V):fill cs ((off,sz,y)::ps) fr =
  bif bK (y.ev fr)then none else bif Nat.beq (V.cells (y.ev fr)).length sz then(match splice off cs (V.cells (y.ev fr))with|some cs=>fill cs ps fr|none=>none)else none:=by
 cases hw:y.ev fr<;>simp only[fill,hw,bK,cond_true,cond_false]<;>rfl
def YG{ps:List (Nat×Nat×aC)}(hr:∀a∈ps,RO aB fr a.2.2):∀{cs r:List V},fill cs (Yl ps aB) []=some r->fill cs ps fr=some r:=by
 induction ps with
 |nil=>intro cs r e;exact e
 |cons p ps ih =>
  obtain⟨off,sz,y⟩:=p;intro cs r e;rw[show Yl ((off,sz,y)::ps) aB=(off,sz,gY y aB)::Yl ps aB from rfl,Tj]at e;rw[Tj];have e1:aC.ev (gY y aB) []=(xo y).f aB:=rfl;rw[e1]at e;rcases hr _ bZ with hq|⟨⟨t,o,hq⟩,_⟩
  .simp only at hq;rw[hq]at e;cases h1:bK (y.ev fr)with
   |true=>rw[h1]at e;cases e
   |false =>
    rw[h1]at e;simp only[cond_false]at e|-;cases hb:Nat.beq (V.cells (y.ev fr)).length sz with
    |false=>rw[hb]at e;cases e
    |true =>
     rw[hb]at e;simp only[cond_true]at e|-;cases hs:splice off cs (V.cells (y.ev fr))with
     |none=>rw[hs]at e;cases e
     |some cs' =>
      rw[hs]at e;exact ih (λa ha=>hr a (bW _ ha)) e
  .simp only at hq;rw[hq]at e;cases e
def abT:∀{l:List aC},(∀a∈l,RO aB fr a)->iV (aC.evs (Vf l aB) [])=false->aC.evs (Vf l aB) []=aC.evs l fr
 |[],_,_=>rfl
 |y::l,hr,e=>by
  simp only[Vf,aC.evs,gY]at e|-;have e1:aC.ev (.const ((xo y).f aB)) []=(xo y).f aB:=rfl;rw[e1]at e|-;rcases hr _ bZ with hq|⟨⟨t,o,hq⟩,_⟩
  .rw[hq]at e|-;have h2:iV (aC.evs (Vf l aB) [])=false:=by
    simp only[iV]at e
    split at e
    .cases e
    .exact e
   rw[abT (λa ha=>hr a (bW _ ha)) h2]
  .rw[hq]at e;simp only[iV]at e;cases e
def ame(h:H)(c t o:Nat):lenOf h c (.aY t o)=none:=by unfold lenOf;split<;>rfl
def ajK(op:BinOp)(t o:Nat)(w:V):cO op (.aY t o) w=none:=by
 cases op<;>first|rfl|(cases w<;>first|rfl|(simp only[cO,qw,mV];split<;>rfl)|(simp only[cO,qw,mV];rename_i b;cases sK b 0<;>rfl))
def ajL(op:BinOp)(t o:Nat)(w:V):cO op w (.aY t o)=none:=by cases op<;>cases w<;>rfl
def Fj{F:aC->xI}{a:aC}{l:Lo}(hc:∀y fr lo h,F y fr lo h=F (.const (y.ev fr)) [] lo h)(hG:∀u,vY (F (.const u) []))(hl:∀t o h v l h',F (.const (.aY t o)) [] [] h≠.ok v l h')
  (ha:RO aB fr a) (e:F (gY a aB) [] [] h=.ok v l h'):F a fr lo h=.ok v lo h':=by
 rw[hc];rcases ha with ha|⟨⟨t,o,ha⟩,_⟩
 .rw[<- ha];exact hG _ _ _ _ _ _ _ e
 .simp only[gY,ha]at e;exact absurd e (hl _ _ _ _ _ _)
def zZ{F:aC->aC->xI}{a b:aC}{l:Lo}(hc:∀y z fr lo h,F y z fr lo h=F (.const (y.ev fr)) (.const (z.ev fr)) [] lo h)(hG:∀u w,vY (F (.const u) (.const w) []))(hl:∀t o w h v l h',F (.const (.aY t o)) (.const w) [] [] h≠.ok v l h')
  (hm:∀t o w h v l h',F (.const w) (.const (.aY t o)) [] [] h≠.ok v l h') (ha:RO aB fr a) (hb:RO aB fr b) (e:F (gY a aB) (gY b aB) [] [] h=.ok v l h'):F a b fr lo h=.ok v lo h':=by
 rw[hc];rcases ha with ha|⟨⟨t,o,ha⟩,_⟩
 .rcases hb with hb|⟨⟨t,o,hb⟩,_⟩
  .rw[<- ha,<- hb];exact hG _ _ _ _ _ _ _ _ e
  .simp only[gY,hb]at e;exact absurd e (hm _ _ _ _ _ _ _)
 .simp only[gY,ha]at e;exact absurd e (hl _ _ _ _ _ _ _)
def axA{F:aC->aC->aC->xI}{a b c:aC}{l:Lo}(hc:∀y z w fr lo h,F y z w fr lo h=F (.const (y.ev fr)) (.const (z.ev fr)) (.const (w.ev fr)) [] lo h)(hG:∀u w z,vY (F (.const u) (.const w) (.const z) []))
  (h1:∀t o w z h v l h',F (.const (.aY t o)) (.const w) (.const z) [] [] h≠.ok v l h') (h2:∀t o w z h v l h',F (.const w) (.const (.aY t o)) (.const z) [] [] h≠.ok v l h') (h3:∀t o w z h v l h',F (.const w) (.const z) (.const (.aY t o)) [] [] h≠.ok v l h')
  (ha:RO aB fr a) (hb:RO aB fr b) (hd:RO aB fr c) (e:F (gY a aB) (gY b aB) (gY c aB) [] [] h=.ok v l h'):F a b c fr lo h=.ok v lo h':=by
 rw[hc];rcases ha with ha|⟨⟨t,o,ha⟩,_⟩
 .rcases hb with hb|⟨⟨t,o,hb⟩,_⟩
  .rcases hd with hd|⟨⟨t,o,hd⟩,_⟩
   .rw[<- ha,<- hb,<- hd];exact hG _ _ _ _ _ _ _ _ _ e
   .simp only[gY,hd]at e;exact absurd e (h3 _ _ _ _ _ _ _ _)
  .simp only[gY,hb]at e;exact absurd e (h2 _ _ _ _ _ _ _ _)
 .simp only[gY,ha]at e;exact absurd e (h1 _ _ _ _ _ _ _ _)
def aqr(u:V):vY (BQ (.const u) []):=by
 intro lo lo' h v l h' e
 revert e
 unfold BQ;dsimp only[aC.ev]
 try simp only[cu]
 repeat' split
 all_goals first|exact vY.eU _ _ _ _ _ _ _|(intro e;cases e;rfl)|(intro e;cases e)
def arl(t_ o:Nat)(h:H)(v:V)(l:Lo)(h':H):BQ (.const (.aY t_ o)) [] [] h≠.ok v l h':=by
 intro e
 first
 |cases e
 |(unfold BQ at e
   dsimp only[aC.ev]at e
   try simp only[cu]at e
   repeat' split at e
   all_goals first|(cases e;done)|simp_all [fH,lenOf,iy,bK,cO,eH,iK,mV,dD,qw,nM,qx,qy,OR.eU])
def YC{k:IntKind}(u:V):vY ((lg k) (.const u) []):=by
 intro lo lo' h v l h' e
 revert e
 unfold lg;dsimp only[aC.ev]
 try simp only[cu]
 repeat' split
 all_goals first|exact vY.eU _ _ _ _ _ _ _|(intro e;cases e;rfl)|(intro e;cases e)
def ZG{k:IntKind}(t_ o:Nat)(h:H)(v:V)(l:Lo)(h':H):(lg k) (.const (.aY t_ o)) [] [] h≠.ok v l h':=by
 intro e
 first
 |cases e
 |(unfold lg at e
   dsimp only[aC.ev]at e
   try simp only[cu]at e
   repeat' split at e
   all_goals first|(cases e;done)|simp_all [fH,lenOf,iy,bK,cO,eH,iK,mV,dD,qw,nM,qx,qy,OR.eU])
def agQ(u:V):vY (sF (.const u) []):=by
 intro lo lo' h v l h' e
 revert e
 unfold sF;dsimp only[aC.ev]
 try simp only[cu]
 repeat' split
 all_goals first|exact vY.eU _ _ _ _ _ _ _|(intro e;cases e;rfl)|(intro e;cases e)
def ahN(t_ o:Nat)(h:H)(v:V)(l:Lo)(h':H):sF (.const (.aY t_ o)) [] [] h≠.ok v l h':=by
 intro e
 first
 |cases e
 |(unfold sF at e
   dsimp only[aC.ev]at e
   try simp only[cu]at e
   repeat' split at e
   all_goals first|(cases e;done)|simp_all [fH,lenOf,iy,bK,cO,eH,iK,mV,dD,qw,nM,qx,qy,OR.eU])
def akT(u:V):vY (xk (.const u) []):=by
 intro lo lo' h v l h' e
 revert e
 unfold xk;dsimp only[aC.ev]
 try simp only[cu]
 repeat' split
 all_goals first|exact vY.eU _ _ _ _ _ _ _|(intro e;cases e;rfl)|(intro e;cases e)
def amb(t_ o:Nat)(h:H)(v:V)(l:Lo)(h':H):xk (.const (.aY t_ o)) [] [] h≠.ok v l h':=by
 intro e
 first
 |cases e
 |(unfold xk at e
   dsimp only[aC.ev]at e
   try simp only[cu]at e
   repeat' split at e
   all_goals first|(cases e;done)|simp_all [fH,lenOf,iy,bK,cO,eH,iK,mV,dD,qw,nM,qx,qy,OR.eU])
def YF(u:V):vY (jE (.const u) []):=by
 intro lo lo' h v l h' e
 revert e
 unfold jE;dsimp only[aC.ev]
 try simp only[cu]
 repeat' split
 all_goals first|exact vY.eU _ _ _ _ _ _ _|(intro e;cases e;rfl)|(intro e;cases e)
def ZJ(t_ o:Nat)(h:H)(v:V)(l:Lo)(h':H):jE (.const (.aY t_ o)) [] [] h≠.ok v l h':=by
 intro e
 first
 |cases e
 |(unfold jE at e
   dsimp only[aC.ev]at e
   try simp only[cu]at e
   repeat' split at e
   all_goals first|(cases e;done)|simp_all [fH,lenOf,iy,bK,cO,eH,iK,mV,dD,qw,nM,qx,qy,OR.eU])
def agR(u:V):vY (uj (.const u) []):=by
 intro lo lo' h v l h' e
 revert e
 unfold uj;dsimp only[aC.ev]
 try simp only[cu]
 repeat' split
 all_goals first|exact vY.eU _ _ _ _ _ _ _|(intro e;cases e;rfl)|(intro e;cases e)
def ahO(t_ o:Nat)(h:H)(v:V)(l:Lo)(h':H):uj (.const (.aY t_ o)) [] [] h≠.ok v l h':=by
 intro e
 first
 |cases e
 |(unfold uj at e
   dsimp only[aC.ev]at e
   try simp only[cu]at e
   repeat' split at e
   all_goals first|(cases e;done)|simp_all [fH,lenOf,iy,bK,cO,eH,iK,mV,dD,qw,nM,qx,qy,OR.eU])
def YE{t:TypeId}(u:V):vY ((lU t) (.const u) []):=by
 intro lo lo' h v l h' e
 revert e
 unfold lU;dsimp only[aC.ev]
 try simp only[cu]
 repeat' split
 all_goals first|exact vY.eU _ _ _ _ _ _ _|(intro e;cases e;rfl)|(intro e;cases e)
def ZI{t:TypeId}(t_ o:Nat)(h:H)(v:V)(l:Lo)(h':H):(lU t) (.const (.aY t_ o)) [] [] h≠.ok v l h':=by
 intro e
 first
 |cases e
 |(unfold lU at e
   dsimp only[aC.ev]at e
   try simp only[cu]at e
   repeat' split at e
   all_goals first|(cases e;done)|simp_all [fH,lenOf,iy,bK,cO,eH,iK,mV,dD,qw,nM,qx,qy,OR.eU])
def agN{ag:Bool}{off sz:Nat}(u:V):vY ((qL ag off sz) (.const u) []):=by
 intro lo lo' h v l h' e
 revert e
 unfold qL;dsimp only[aC.ev]
 try simp only[cu]
 repeat' split
 all_goals first|exact vY.eU _ _ _ _ _ _ _|(intro e;cases e;rfl)|(intro e;cases e)
def ahK{ag:Bool}{off sz:Nat}(t_ o:Nat)(h:H)(v:V)(l:Lo)(h':H):(qL ag off sz) (.const (.aY t_ o)) [] [] h≠.ok v l h':=by
 intro e
 first
 |cases e
 |(unfold qL at e
   dsimp only[aC.ev]at e
   try simp only[cu]at e
   repeat' split at e
   all_goals first|(cases e;done)|simp_all [fH,lenOf,iy,bK,cO,eH,iK,mV,dD,qw,nM,qx,qy,OR.eU])
def aqn{c:Nat}(u:V):vY ((vN c) (.const u) []):=by
 intro lo lo' h v l h' e
 revert e
 unfold vN;dsimp only[aC.ev]
 try simp only[cu]
 repeat' split
 all_goals first|exact vY.eU _ _ _ _ _ _ _|(intro e;cases e;rfl)|(intro e;cases e)
def ari{c:Nat}(t_ o:Nat)(h:H)(v:V)(l:Lo)(h':H):(vN c) (.const (.aY t_ o)) [] [] h≠.ok v l h':=by
 intro e;simp only[vN,aC.ev,ame]at e;cases e
def aqm(u:V):vY (BP (.const u) []):=by
 intro lo lo' h v l h' e
 revert e
 unfold BP;dsimp only[aC.ev]
 try simp only[cu]
 repeat' split
 all_goals first|exact vY.eU _ _ _ _ _ _ _|(intro e;cases e;rfl)|(intro e;cases e)
def arh(t_ o:Nat)(h:H)(v:V)(l:Lo)(h':H):BP (.const (.aY t_ o)) [] [] h≠.ok v l h':=by
 intro e
 first
 |cases e
 |(unfold BP at e
   dsimp only[aC.ev]at e
   try simp only[cu]at e
   repeat' split at e
   all_goals first|(cases e;done)|simp_all [fH,lenOf,iy,bK,cO,eH,iK,mV,dD,qw,nM,qx,qy,OR.eU])
def agM{z:List V}(u:V):vY ((vM z) (.const u) []):=by
 intro lo lo' h v l h' e
 revert e
 unfold vM;dsimp only[aC.ev]
 try simp only[cu]
 repeat' split
 all_goals first|exact vY.eU _ _ _ _ _ _ _|(intro e;cases e;rfl)|(intro e;cases e)
def ahJ{z:List V}(t_ o:Nat)(h:H)(v:V)(l:Lo)(h':H):(vM z) (.const (.aY t_ o)) [] [] h≠.ok v l h':=by
 intro e
 first
 |cases e
 |(unfold vM at e
   dsimp only[aC.ev]at e
   try simp only[cu]at e
   repeat' split at e
   all_goals first|(cases e;done)|simp_all [fH,lenOf,iy,bK,cO,eH,iK,mV,dD,qw,nM,qx,qy,OR.eU])
def aql{op:BinOp}(u w:V):vY ((xR op) (.const u) (.const w) []):=by
 intro lo lo' h v l h' e
 revert e
 unfold xR;dsimp only[aC.ev]
 try simp only[cu]
 repeat' split
 all_goals first|exact vY.eU _ _ _ _ _ _ _|(intro e;cases e;rfl)|(intro e;cases e)
def arf{op:BinOp}(t_ o:Nat)(w:V)(h:H)(v:V)(l:Lo)(h':H):(xR op) (.const (.aY t_ o)) (.const w) [] [] h≠.ok v l h':=by
 intro e;simp only[xR,aC.ev,ajK,OR.eU]at e;cases e
def arz{op:BinOp}(t_ o:Nat)(w:V)(h:H)(v:V)(l:Lo)(h':H):(xR op) (.const w) (.const (.aY t_ o)) [] [] h≠.ok v l h':=by
 intro e;simp only[xR,aC.ev,ajL,OR.eU]at e;cases e
def LQ{z:List V}(u w:V):vY ((iC z) (.const u) (.const w) []):=by
 intro lo lo' h v l h' e
 revert e
 unfold iC;dsimp only[aC.ev]
 try simp only[cu]
 repeat' split
 all_goals first|exact vY.eU _ _ _ _ _ _ _|(intro e;cases e;rfl)|(intro e;cases e)
def LZ{z:List V}(t_ o:Nat)(w:V)(h:H)(v:V)(l:Lo)(h':H):(iC z) (.const (.aY t_ o)) (.const w) [] [] h≠.ok v l h':=by
 intro e
 first
 |cases e
 |(unfold iC at e
   dsimp only[aC.ev]at e
   try simp only[cu]at e
   repeat' split at e
   all_goals first|(cases e;done)|simp_all [fH,lenOf,iy,bK,cO,eH,iK,mV,dD,qw,nM,qx,qy,OR.eU])
def L9{z:List V}(t_ o:Nat)(w:V)(h:H)(v:V)(l:Lo)(h':H):(iC z) (.const w) (.const (.aY t_ o)) [] [] h≠.ok v l h':=by
 intro e
 first
 |cases e
 |(unfold iC at e
   dsimp only[aC.ev]at e
   try simp only[cu]at e
   repeat' split at e
   all_goals first|(cases e;done)|simp_all [fH,lenOf,iy,bK,cO,eH,iK,mV,dD,qw,nM,qx,qy,OR.eU])
def YD{sz:Nat}(u w:V):vY ((iG sz) (.const u) (.const w) []):=by
 intro lo lo' h v l h' e
 revert e
 unfold iG;dsimp only[aC.ev]
 try simp only[cu]
 repeat' split
 all_goals first|exact vY.eU _ _ _ _ _ _ _|(intro e;cases e;rfl)|(intro e;cases e)
def ZH{sz:Nat}(t_ o:Nat)(w:V)(h:H)(v:V)(l:Lo)(h':H):(iG sz) (.const (.aY t_ o)) (.const w) [] [] h≠.ok v l h':=by
 intro e
 first
 |cases e
 |(unfold iG at e
   dsimp only[aC.ev]at e
   try simp only[cu]at e
   repeat' split at e
   all_goals first|(cases e;done)|simp_all [fH,lenOf,iy,bK,cO,eH,iK,mV,dD,qw,nM,qx,qy,OR.eU])
def ZO{sz:Nat}(t_ o:Nat)(w:V)(h:H)(v:V)(l:Lo)(h':H):(iG sz) (.const w) (.const (.aY t_ o)) [] [] h≠.ok v l h':=by
 intro e
 first
 |cases e
 |(unfold iG at e
   dsimp only[aC.ev]at e
   try simp only[cu]at e
   repeat' split at e
   all_goals first|(cases e;done)|simp_all [fH,lenOf,iy,bK,cO,eH,iK,mV,dD,qw,nM,qx,qy,OR.eU])
def agO(u w:V):vY (pI (.const u) (.const w) []):=by
 intro lo lo' h v l h' e
 revert e
 unfold pI;dsimp only[aC.ev]
 try simp only[cu]
 repeat' split
 all_goals first|exact vY.eU _ _ _ _ _ _ _|(intro e;cases e;rfl)|(intro e;cases e)
def ahL(t_ o:Nat)(w:V)(h:H)(v:V)(l:Lo)(h':H):pI (.const (.aY t_ o)) (.const w) [] [] h≠.ok v l h':=by
 intro e
 first
 |cases e
 |(unfold pI at e
   dsimp only[aC.ev]at e
   try simp only[cu]at e
   repeat' split at e
   all_goals first|(cases e;done)|simp_all [fH,lenOf,iy,bK,cO,eH,iK,mV,dD,qw,nM,qx,qy,OR.eU])
def ahV(t_ o:Nat)(w:V)(h:H)(v:V)(l:Lo)(h':H):pI (.const w) (.const (.aY t_ o)) [] [] h≠.ok v l h':=by
 intro e
 first
 |cases e
 |(unfold pI at e
   dsimp only[aC.ev]at e
   try simp only[cu]at e
   repeat' split at e
   all_goals first|(cases e;done)|simp_all [fH,lenOf,iy,bK,cO,eH,iK,mV,dD,qw,nM,qx,qy,OR.eU])
def abY{ag:Bool}{sz n:Nat}(u w:V):vY ((mg ag sz n) (.const u) (.const w) []):=by
 intro lo lo' h v l h' e
 revert e
 unfold mg;dsimp only[aC.ev]
 try simp only[cu]
 repeat' split
 all_goals first|exact vY.eU _ _ _ _ _ _ _|(intro e;cases e;rfl)|(intro e;cases e)
def ac1{ag:Bool}{sz n:Nat}(t_ o:Nat)(w:V)(h:H)(v:V)(l:Lo)(h':H):(mg ag sz n) (.const (.aY t_ o)) (.const w) [] [] h≠.ok v l h':=by
 intro e
 first
 |cases e
 |(unfold mg at e
   dsimp only[aC.ev]at e
   try simp only[cu]at e
   repeat' split at e
   all_goals first|(cases e;done)|simp_all [fH,lenOf,iy,bK,cO,eH,iK,mV,dD,qw,nM,qx,qy,OR.eU])
def ac9{ag:Bool}{sz n:Nat}(t_ o:Nat)(w:V)(h:H)(v:V)(l:Lo)(h':H):(mg ag sz n) (.const w) (.const (.aY t_ o)) [] [] h≠.ok v l h':=by
 intro e
 first
 |cases e
 |(unfold mg at e
   dsimp only[aC.ev]at e
   try simp only[cu]at e
   repeat' split at e
   all_goals first|(cases e;done)|simp_all [fH,lenOf,iy,bK,cO,eH,iK,mV,dD,qw,nM,qx,qy,OR.eU])
def abZ{kc:Nat}{z:V}{ok:Bool}(u w:V):vY ((mD kc z ok) (.const u) (.const w) []):=by
 intro lo lo' h v l h' e
 revert e
 unfold mD;dsimp only[aC.ev]
 try simp only[cu]
 repeat' split
 all_goals first|exact vY.eU _ _ _ _ _ _ _|(intro e;cases e;rfl)|(intro e;cases e)
def ac2{kc:Nat}{z:V}{ok:Bool}(t_ o:Nat)(w:V)(h:H)(v:V)(l:Lo)(h':H):(mD kc z ok) (.const (.aY t_ o)) (.const w) [] [] h≠.ok v l h':=by
 intro e;unfold mD at e;dsimp only[aC.ev]at e;simp only[show∀h,mapOf (V.aY t_ o) h=none from λ_=>rfl]at e;cases hk:iy kc w<;>rw[hk]at e<;>cases e
def ada{kc:Nat}{z:V}{ok:Bool}(t_ o:Nat)(w:V)(h:H)(v:V)(l:Lo)(h':H):(mD kc z ok) (.const w) (.const (.aY t_ o)) [] [] h≠.ok v l h':=by
 intro e
 first
 |cases e
 |(unfold mD at e
   dsimp only[aC.ev]at e
   try simp only[cu]at e
   repeat' split at e
   all_goals first|(cases e;done)|simp_all [fH,lenOf,iy,bK,cO,eH,iK,mV,dD,qw,nM,qx,qy,OR.eU])
def aqo(u w:V):vY (zJ (.const u) (.const w) []):=by
 intro lo lo' h v l h' e
 revert e
 unfold zJ;dsimp only[aC.ev]
 try simp only[cu]
 repeat' split
 all_goals first|exact vY.eU _ _ _ _ _ _ _|(intro e;cases e;rfl)|(intro e;cases e)
def arj(t_ o:Nat)(w:V)(h:H)(v:V)(l:Lo)(h':H):zJ (.const (.aY t_ o)) (.const w) [] [] h≠.ok v l h':=by
 intro e
 first
 |cases e
 |(unfold zJ at e
   dsimp only[aC.ev]at e
   try simp only[cu]at e
   repeat' split at e
   all_goals first|(cases e;done)|simp_all [fH,lenOf,iy,bK,cO,eH,iK,mV,dD,qw,nM,qx,qy,OR.eU])
def arA(t_ o:Nat)(w:V)(h:H)(v:V)(l:Lo)(h':H):zJ (.const w) (.const (.aY t_ o)) [] [] h≠.ok v l h':=by
 intro e
 first
 |cases e
 |(unfold zJ at e
   dsimp only[aC.ev]at e
   try simp only[cu]at e
   repeat' split at e
   all_goals first|(cases e;done)|simp_all [fH,lenOf,iy,bK,cO,eH,iK,mV,dD,qw,nM,qx,qy,OR.eU])
def aqp(u w:V):vY (zK (.const u) (.const w) []):=by
 intro lo lo' h v l h' e
 revert e
 unfold zK;dsimp only[aC.ev]
 try simp only[cu]
 repeat' split
 all_goals first|exact vY.eU _ _ _ _ _ _ _|(intro e;cases e;rfl)|(intro e;cases e)
def ark(t_ o:Nat)(w:V)(h:H)(v:V)(l:Lo)(h':H):zK (.const (.aY t_ o)) (.const w) [] [] h≠.ok v l h':=by
 intro e
 first
 |cases e
 |(unfold zK at e
   dsimp only[aC.ev]at e
   try simp only[cu]at e
   repeat' split at e
   all_goals first|(cases e;done)|simp_all [fH,lenOf,iy,bK,cO,eH,iK,mV,dD,qw,nM,qx,qy,OR.eU])
def arB(t_ o:Nat)(w:V)(h:H)(v:V)(l:Lo)(h':H):zK (.const w) (.const (.aY t_ o)) [] [] h≠.ok v l h':=by
 intro e
 first
 |cases e
 |(unfold zK at e
   dsimp only[aC.ev]at e
   try simp only[cu]at e
   repeat' split at e
   all_goals first|(cases e;done)|simp_all [fH,lenOf,iy,bK,cO,eH,iK,mV,dD,qw,nM,qx,qy,OR.eU])
def O6{sz:Nat}(u w:V):vY ((dN sz) (.const u) (.const w) []):=by
 intro lo lo' h v l h' e
 revert e
 unfold dN;dsimp only[aC.ev];cases fH w with
 |none=>intro e;cases e
 |some n =>
  dsimp only;cases bJ h sz n w with
  |none=>intro e;cases e
  |some new =>
   dsimp only;cases bf new with
   |false=>intro e;cases e
   |true =>
    simp only[cond_true];cases ou h sz u n new with
    |none=>intro e;cases e
    |some p=>intro e;cases e;rfl
def P5{sz:Nat}(t_ o:Nat)(w:V)(h:H)(v:V)(l:Lo)(h':H):(dN sz) (.const (.aY t_ o)) (.const w) [] [] h≠.ok v l h':=by
 intro e;unfold dN at e;dsimp only[aC.ev]at e;have hq:∀n new,ou h sz (.aY t_ o) n new=none:=by
  intro n new;simp only[ou,yH];cases Nat.beq n 0<;>rfl
 cases hw:fH w with
 |none=>rw[hw]at e;cases e
 |some n =>
  rw[hw]at e;dsimp only at e;cases hs:bJ h sz n w with
  |none=>rw[hs]at e;cases e
  |some new =>
   rw[hs]at e;simp only[hq]at e;cases ho:bf new<;>rw[ho]at e<;>cases e
def Qa{sz:Nat}(t_ o:Nat)(w:V)(h:H)(v:V)(l:Lo)(h':H):(dN sz) (.const w) (.const (.aY t_ o)) [] [] h≠.ok v l h':=by
 intro e
 first
 |cases e
 |(unfold dN at e
   dsimp only[aC.ev]at e
   try simp only[cu]at e
   repeat' split at e
   all_goals first|(cases e;done)|simp_all [fH,lenOf,iy,bK,cO,eH,iK,mV,dD,qw,nM,qx,qy,OR.eU])
def YB{z:List V}(u w:V):vY ((lT z) (.const u) (.const w) []):=by
 intro lo lo' h v l h' e
 revert e
 unfold lT;dsimp only[aC.ev]
 try simp only[cu]
 repeat' split
 all_goals first|exact vY.eU _ _ _ _ _ _ _|(intro e;cases e;rfl)|(intro e;cases e)
def ZF{z:List V}(t_ o:Nat)(w:V)(h:H)(v:V)(l:Lo)(h':H):(lT z) (.const (.aY t_ o)) (.const w) [] [] h≠.ok v l h':=by
 intro e
 first
 |cases e
 |(unfold lT at e
   dsimp only[aC.ev]at e
   try simp only[cu]at e
   repeat' split at e
   all_goals first|(cases e;done)|simp_all [fH,lenOf,iy,bK,cO,eH,iK,mV,dD,qw,nM,qx,qy,OR.eU])
def ZN{z:List V}(t_ o:Nat)(w:V)(h:H)(v:V)(l:Lo)(h':H):(lT z) (.const w) (.const (.aY t_ o)) [] [] h≠.ok v l h':=by
 intro e
 first
 |cases e
 |(unfold lT at e
   dsimp only[aC.ev]at e
   try simp only[cu]at e
   repeat' split at e
   all_goals first|(cases e;done)|simp_all [fH,lenOf,iy,bK,cO,eH,iK,mV,dD,qw,nM,qx,qy,OR.eU])
def agC(sz:Nat)(u w:V)(n:Nat):vY (zl sz u w n):=by
 intro lo lo' h v l h' e
 revert e
 unfold zl
 split
 .simp only[cu]
  repeat' split
  all_goals first|(intro e;cases e;rfl)|(intro e;cases e)
 .cases Nat.beq n 0<;>(intro e;cases e)<;>rfl
def akS{sz:Nat}(u w:V):vY ((uF sz) (.const u) (.const w) []):=by
 intro lo lo' h v l h' e
 revert e
 unfold uF;dsimp only[aC.ev];cases fH w with
 |none=>intro e;cases e
 |some n =>
  dsimp only;cases lenOf h 0 u with
  |none=>intro e;cases e
  |some m=>exact agC _ _ _ _ _ _ _ _ _ _
def ama{sz:Nat}(t_ o:Nat)(w:V)(h:H)(v:V)(l:Lo)(h':H):(uF sz) (.const (.aY t_ o)) (.const w) [] [] h≠.ok v l h':=by
 intro e
 first
 |cases e
 |(unfold uF at e
   dsimp only[aC.ev]at e
   try simp only[cu]at e
   repeat' split at e
   all_goals first|(cases e;done)|simp_all [fH,lenOf])
def amk{sz:Nat}(t_ o:Nat)(w:V)(h:H)(v:V)(l:Lo)(h':H):(uF sz) (.const w) (.const (.aY t_ o)) [] [] h≠.ok v l h':=by
 intro e
 first
 |cases e
 |(unfold uF at e
   dsimp only[aC.ev]at e
   try simp only[cu]at e
   repeat' split at e
   all_goals first|(cases e;done)|simp_all [fH,lenOf,iy,bK,cO,eH,iK,mV,dD,qw,nM,qx,qy,OR.eU])
def agP(u w:V):vY (uf (.const u) (.const w) []):=by
 intro lo lo' h v l h' e
 revert e
 unfold uf;dsimp only[aC.ev]
 try simp only[cu]
 repeat' split
 all_goals first|(intro e;cases e;rfl)|(intro e;cases e)
def ahM(t_ o:Nat)(w:V)(h:H)(v:V)(l:Lo)(h':H):uf (.const (.aY t_ o)) (.const w) [] [] h≠.ok v l h':=by
 intro e;cases e
def ahW(t_ o:Nat)(w:V)(h:H)(v:V)(l:Lo)(h':H):uf (.const w) (.const (.aY t_ o)) [] [] h≠.ok v l h':=by
 intro e;unfold uf at e;dsimp only[aC.ev]at e
 split at e<;>cases e
def Vs{z:List V}(u w:V):vY ((kJ z) (.const u) (.const w) []):=by
 intro lo lo' h v l h' e;unfold kJ at e|-;cases hq:iC z (.const u) (.const w) [] lo h with
 |fail=>rw[hq]at e;cases e
 |ok v1 l1 h1 =>
  rw[hq]at e;rw[LQ u w _ lo' _ _ _ _ hq];dsimp only at e|-;cases e;rfl
def Wi{z:List V}(t_ o:Nat)(w:V)(h:H)(v:V)(l:Lo)(h':H):(kJ z) (.const (.aY t_ o)) (.const w) [] [] h≠.ok v l h':=by
 intro e;unfold kJ at e;cases hq:iC z (.const (.aY t_ o)) (.const w) [] [] h with
 |fail=>rw[hq]at e;cases e
 |ok v1 l1 h1=>exact absurd hq (LZ _ _ _ _ _ _ _)
def Wu{z:List V}(t_ o:Nat)(w:V)(h:H)(v:V)(l:Lo)(h':H):(kJ z) (.const w) (.const (.aY t_ o)) [] [] h≠.ok v l h':=by
 intro e;unfold kJ at e;cases hq:iC z (.const w) (.const (.aY t_ o)) [] [] h with
 |fail=>rw[hq]at e;cases e
 |ok v1 l1 h1=>exact absurd hq (L9 _ _ _ _ _ _ _)
def YA{sz:Nat}(u w:V):vY ((lS sz) (.const u) (.const w) []):=by
 intro lo lo' h v l h' e;unfold lS at e|-;cases hq:dN sz (.const u) (.const w) [] lo h with
 |fail=>rw[hq]at e;cases e
 |ok v1 l1 h1 =>
  rw[hq]at e;rw[O6 u w _ lo' _ _ _ _ hq];dsimp only at e|-;cases e;rfl
def ZE{sz:Nat}(t_ o:Nat)(w:V)(h:H)(v:V)(l:Lo)(h':H):(lS sz) (.const (.aY t_ o)) (.const w) [] [] h≠.ok v l h':=by
 intro e;unfold lS at e;cases hq:dN sz (.const (.aY t_ o)) (.const w) [] [] h with
 |fail=>rw[hq]at e;cases e
 |ok v1 l1 h1=>exact absurd hq (P5 _ _ _ _ _ _ _)
def ZM{sz:Nat}(t_ o:Nat)(w:V)(h:H)(v:V)(l:Lo)(h':H):(lS sz) (.const w) (.const (.aY t_ o)) [] [] h≠.ok v l h':=by
 intro e;unfold lS at e;cases hq:dN sz (.const w) (.const (.aY t_ o)) [] [] h with
 |fail=>rw[hq]at e;cases e
 |ok v1 l1 h1=>exact absurd hq (Qa _ _ _ _ _ _ _)
end
section
open Go
variable {x:Cx}{e:List AZ}{aB uq:Fr}{bx bx':Bx}{fr fr':List V}{lo lo':Lo}{h h':H}{v:V}
def ab1{kc:Nat}(u w z:V):vY (oH kc (.const u) (.const w) (.const z) []):=by
 intro lo lo' h v l h' e
 revert e
 unfold oH;dsimp only[aC.ev];cases iy kc w&&!bK z with
 |false=>intro e;cases e
 |true =>
  simp only[cond_true]
  split
  .split
   .split
    .rename_i r _;unfold La
     split<;>(intro e;cases e;rfl)
    .intro e;cases e
   .intro e;cases e
  .intro e;cases e
def avC{c:Nat}(t o:Nat)(w:V)(h:H)(hc:c≠2):nH h c (.aY t o) w=none:=by
 unfold nH
 split<;>first|rfl|exact absurd rfl hc|(cases w<;>simp[DJ,ED,DW])
def avD{c:Nat}(t o:Nat)(w:V)(h:H)(hc:c≠2):nH h c w (.aY t o)=none:=by
 unfold nH
 split<;>first|exact absurd rfl hc|(cases w<;>rfl)|rfl|(cases w<;>simp[DJ,ED,DW])
def abR{n:Bool}{c:Nat}{a b:aC}{u w:V}(hn:nH h c u w≠none)(hu:RV u (a.ev fr))(hw:RV w (b.ev fr))(h2:c=2->Nu u=false/\Nu w=false)(he:zY n c (.const u) (.const w) [] [] h=.ok v [] h'):zY n c a b fr lo h=.ok v lo h':=by
 rcases hu with hu|⟨⟨t,o,hu⟩,_⟩
 .rcases hw with hw|⟨⟨t,o,hw⟩,_⟩
  .unfold zY at he|-;dsimp only[aC.ev]at he;rw[hu,hw]at he;exact vY.eU _ _ _ _ _ _ _ he
  .by_cases hc:c=2
   .have:=(h2 hc).2;rw[hw]at this;cases this
   .rw[hw,avD _ _ _ _ hc]at hn;exact absurd rfl hn
 .by_cases hc:c=2
  .have:=(h2 hc).1;rw[hu]at this;cases this
  .rw[hu,avC _ _ _ _ hc]at hn;exact absurd rfl hn
def Vq{n:Bool}{c:Nat}{a b:aC}{u w:V}(hu:RV u (a.ev fr))(hw:RV w (b.ev fr))(h2:c=2->Nu u=false/\Nu w=false)(hq:OX.of (zY n c (.const u) (.const w) [] [] h)=.ok v h'):zY n c a b fr lo h=.ok v lo h':=by
 obtain⟨l,hq⟩:=ofX hq;have hq2:zY n c (.const u) (.const w) [] [] h=.ok v [] h':=by
  unfold zY at hq|-;exact vY.eU _ _ _ _ _ _ _ hq
 refine abR (λhn=>?_) hu hw h2 hq2;unfold zY at hq;dsimp only[aC.ev]at hq;rw[hn]at hq;cases n<;>cases hq
def akO{o:Option Bool}{f:Bool->V}(hq:(Option.rec (motive:=λ_=>OX) .fail (λb=>.ok (f b) h) o)=.ok v h'):∃b,o=some b/\v=f b/\h=h':=by
 obtain⟨b,hb,hq⟩:=Qx hq;cases hq;exact⟨b,hb,rfl,rfl⟩
def avy{n:Bool}{c:Nat}{a b:aC}(ha:RO aB fr a)(hb:RO aB fr b)(he:(eqW n c).f ((xo a).f aB) ((xo b).f aB) h=.ok v h'):zY n c a b fr lo h=.ok v lo h':=by
 match c,he with
 |0,he =>
  cases n with
  |true =>
   obtain⟨b',hb',rfl,rfl⟩:=akO (f:=λb=>.bool (Bool.rec true false b)) he;have hb':=aeH hb';refine abR (u:=(xo a).f aB) (w:=(xo b).f aB) (by simp only[nH,hb'];simp) ha hb (by simp) ?_;simp only[zY,aC.ev,nH,hb',jU,OR.eU,cond_true];cases b'<;>rfl
  |false =>
   obtain⟨b',hb',rfl,rfl⟩:=akO (f:=λb=>.bool b) he;have hb':=aeH hb';refine abR (u:=(xo a).f aB) (w:=(xo b).f aB) (by simp only[nH,hb'];simp) ha hb (by simp) ?_;simp only[zY,aC.ev,nH,hb',gX,OR.eU,cond_false]
 |2,he =>
  simp only[eqW]at he;cases h1:Nu ((xo a).f aB)with
  |true=>rw[h1]at he;cases he
  |false =>
   cases h2:Nu ((xo b).f aB)with
   |true=>rw[h1,h2]at he;cases he
   |false=>rw[h1,h2]at he;exact Vq ha hb (λ_=>⟨h1,h2⟩) he
 |1,he=>exact Vq ha hb (by simp) he
 |c+3,he=>exact Vq ha hb (by omega) he
def Ov(t o d y:Nat):bound (some (.aY t o)) d y=none:=rfl
def RVo(a b:Option V):Prop:=a=b\/∃t o,a=some (.aY t o)
def RX.evo(r:RX x e aB bx fr lo){l:Option aC}(hl:DT x (EZ l)=true):RVo (D7 (Ht l aB) []) (D7 l fr):=by
 cases l with
 |none=>exact .inl rfl
 |some a =>
  rcases r.ro hl with hq|⟨⟨t,o,hq⟩,_⟩
  .exact .inl (by simp only[Ht,D7,gY];exact congrArg some hq)
  .exact .inr ⟨t,o,by simp only[Ht,D7,gY];exact congrArg some hq⟩
def aaz{len cap:Nat}{a b c:Option V}(hq:(∃t o,a=some (.aY t o))\/(∃t o,b=some (.aY t o))\/∃t o,c=some (.aY t o)):jG len cap a b c=none:=by
 unfold jG;rcases hq with⟨t,o,rfl⟩|⟨t,o,rfl⟩|⟨t,o,rfl⟩
 .split
  .rfl
  .split
   .split
    .simp only[Ov]
    .rfl
   .rfl
 .split
  .rfl
  .split
   .simp only[Ov]
   .rfl
 .split
  .rfl
  .simp only[Ov]
def ado{s:Bool}{sz:Nat}{a:aC}{l hh m:Option aC}{lx:Lo}(ha:RO aB fr a)(h1:RVo (D7 (Ht l aB) []) (D7 l fr))(h2:RVo (D7 (Ht hh aB) []) (D7 hh fr))(h3:RVo (D7 (Ht m aB) []) (D7 m fr))
  (he:uh s sz (gY a aB) (Ht l aB) (Ht hh aB) (Ht m aB) [] [] h=.ok v lx h'):uh s sz a l hh m fr lo h=.ok v lo h':=by
 unfold uh at he|-;have e1:aC.ev (gY a aB) []=(xo a).f aB:=rfl;rw[e1]at he;have no:∀{p q r:Option V},((∃t o,p=some (.aY t o))\/(∃t o,q=some (.aY t o))\/∃t o,r=some (.aY t o))->(∀k,QT k p q r=none)/\QS p q r=none/\(∀k xs ex,EY k xs ex p q r=none)/\∀k i o n c z,QO k i o n c z p q r=none:=by
  intro p q r hq;have hn:∀{len cap},jG len cap p q r=none:=aaz hq;refine⟨λk=>?_,by simp only[QS,hn],λk xs ex=>?_,λk i o n c z=>?_⟩
  .unfold QT;cases r with
   |some r=>rfl
   |none=>simp only[hn]
  .unfold EY;simp only[hn];cases xY k xs<;>rfl
  .unfold QO;simp only[hn];cases Nat.beq k z<;>rfl
 rcases ha with hq|⟨⟨t,o,hq⟩,_⟩
 .rw[hq]at he;by_cases hb:(∃t o,D7 (Ht l aB) []=some (.aY t o))\/(∃t o,D7 (Ht hh aB) []=some (.aY t o))\/∃t o,D7 (Ht m aB) []=some (.aY t o)
  .obtain⟨n1,n2,n3,n4⟩:=no hb;simp only[n1,n2,n3,n4,OR.eU]at he
   split at he
   .cases s<;>cases he
   .cases s<;>cases he
   .cases s<;>cases he
   .cases s<;>cases he
   .cases he
  .simp only[not_or]at hb;have q1:=h1.resolve_right hb.1;have q2:=h2.resolve_right hb.2.1;have q3:=h3.resolve_right hb.2.2;rw[q1,q2,q3]at he
   split at he
   .cases s with
    |true=>exact vY.eU _ _ _ _ _ _ _ he
    |false=>cases he
   .cases s with
    |false=>exact vY.eU _ _ _ _ _ _ _ he
    |true=>cases he
   .cases s with
    |false=>exact vY.eU _ _ _ _ _ _ _ he
    |true=>cases he
   .cases s with
    |false=>exact vY.eU _ _ _ _ _ _ _ he
    |true=>cases he
   .cases he
 .rw[hq]at he;cases he
def JZ{a:aC}{cs:List V}(ha:RO aB fr a)(hc:OD ((xo a).f aB) h=some cs):aF (a.ev fr) lo h=some cs:=by
 unfold OD at hc;have nl:∀t o,(xo a).f aB≠.aY t o:=by
  intro t o hq;rw[hq]at hc;cases hc
 rcases ha with ha|⟨⟨t,o,ha⟩,_⟩
 .rw[<- ha];cases hp:aa8 ((xo a).f aB)with
  |no=>rw[hp]at hc;cases hc
  |heap i o =>
   rw[hp]at hc;rw[Le hp];dsimp only at hc;rw[S9]at hc;simp only[aF];cases hg:getCells h i with
   |none=>rw[hg]at hc;cases hc
   |some cs' =>
    rw[hg]at hc;dsimp only at hc;rw[Jt]at hc;exact hc
  |ak7 l =>
   rw[hp]at hc;rw[UQ hp];exact hc
 .exact absurd ha (nl t o)
end
section
open Go
variable {x:Cx}{e:List AZ}{aB uq:Fr}{bx bx':Bx}{fr fr':List V}{lo lo':Lo}{h h':H}{v:V}{d:Nat}
def res{o:OR}(hq:o=.ok v lo h'):∃v',o=.ok v' lo h'/\RV v v':=⟨v,hq,.inl rfl⟩
def gW{o:oM}(he:(auK o).f aB h=.ok v h'):∃l,aK 0 (cst o aB) [] [] h=.ok v l h':=ofX he
def amg{a:aC}(ha:RO aB fr a)(he:(Z9 (.qR a)).f aB h=.ok v h'):vO a fr lo h=.ok v lo h':=by
 obtain⟨cs,hc,he⟩:=Qx he;unfold vO;rw[JZ ha hc];cases cs with
 |nil=>cases he
 |cons c cs=>cases he;rfl
def amh{n:Nat}{a:aC}(ha:RO aB fr a)(he:(Z9 (.qI n a)).f aB h=.ok v h'):vP n a fr lo h=.ok v lo h':=by
 obtain⟨cs,hc,he⟩:=Qx he;obtain⟨r,hr,he⟩:=Qx he;rw[Fe]at hr;unfold vP;rw[JZ ha hc];simp only[hr];cases he;rfl
def Ob{y:aC}{vs:List V}{n:Nat}(hy:RO aB fr y)(hc:Ld ((xo y).f aB)=some vs):(xo y).f aB=y.ev fr/\V.cells (y.ev fr)=vs/\(∀t o,y.ev fr≠.aY t o)/\y.ev fr≠.undef:=by
 obtain⟨h1,h2,h3⟩:=aa6 hc;rcases hy with hy|⟨⟨t,o,hy⟩,_⟩
 .rw[<- hy];exact⟨rfl,h3,h1,h2⟩
 .exact absurd hy (h1 t o)
def Qv{n:Nat}{a y:aC}(h1:∀t o,y.ev fr≠.aY t o)(h2:y.ev fr≠.undef):lq n a y fr lo h=bif Nat.beq (V.cells (y.ev fr)).length n&&bf (V.cells (y.ev fr))then bH (a.ev fr) (V.cells (y.ev fr)) lo h else .fail:=by
 unfold lq
 split
 .rename_i t o hq;exact absurd hq (h1 t o)
 .rename_i hq;exact absurd hq h2
 .rfl
def an8{n:Nat}{a y:aC}(ha:RO aB fr a)(hy:RO aB fr y)(he:(Z9 (.store n a y)).f aB h=.ok v h'):lq n a y fr lo h=.ok v lo h':=by
 obtain⟨vs,hc,he⟩:=Qx he;obtain⟨hb,he⟩:=aew he;obtain⟨ho,he⟩:=aew he;obtain⟨_,hv,n1,n2⟩:=Ob (n:=n) hy hc;rw[Qv n1 n2,hv];rw[Ja]at hb;rw[okF_eq]at ho;rw[hb,ho];simp only[aU,cond_true];cases hp:aa8 ((xo a).f aB)with
 |no=>rw[hp]at he;cases he
 |ak7 cs=>rw[hp]at he;cases he
 |heap i o =>
  rw[hp]at he;obtain⟨cs,hcs,he⟩:=Qx he;obtain⟨r,hr,he⟩:=Qx he;cases he;have hl:=Le hp;rcases ha with ha|⟨⟨t,o,ha⟩,_⟩
  .rw[<- ha,hl];simp only[bH];rw[S9]at hcs;rw[hcs];dsimp only;rw[UD hr,asx]
  .rw[ha]at hl;cases hl
def amA{a:aC}(ha:RO aB fr a)(he:(Z9 (.tK a)).f aB h=.ok v h'):ug a fr lo h=.ok v lo h':=by
 obtain⟨hb,he⟩:=aew he;cases he;rcases ha with ha|⟨⟨t,o,ha⟩,_⟩
 .rw[ha]at hb|-;unfold ug;cases hv:a.ev fr<;>first|rfl|(rw[hv]at hb;cases hb)
 .rw[ha]at hb;cases hb
def Vu{off:Nat}{a:aC}(ha:RO aB fr a)(he:(Z9 (.fieldAddr off a)).f aB h=.ok v h'):jD off a fr lo h=.ok v lo h':=by
 simp only[Z9]at he;cases hp:aa8 ((xo a).f aB)with
 |no=>rw[hp]at he;cases he
 |ak7 cs =>
  rw[hp]at he;have hl:=UQ hp;cases he;rcases ha with ha|⟨⟨t,o,ha⟩,_⟩
  .unfold jD;rw[<- ha,hl,Jt]
  .rw[ha]at hl;cases hl
 |heap i o =>
  rw[hp]at he;have hl:=Le hp;cases he;rcases ha with ha|⟨⟨t,o,ha⟩,_⟩
  .unfold jD;rw[<- ha,hl];rfl
  .rw[ha]at hl;cases hl
def ach{n:Nat}{a i:aC}(ha:RO aB fr a)(hi:RO aB fr i)(he:(Z9 (.ji n a i)).f aB h=.ok v h'):iG n a i fr lo h=.ok v lo h':=by
 have slow:OX.of (iG n (gY a aB) (gY i aB) [] [] h)=.ok v h'->iG n a i fr lo h=.ok v lo h':=by
  intro hq;obtain⟨l,hq⟩:=ofX hq;exact zZ (F:=iG n) (λ_ _ _ _ _=>rfl) YD ZH ZO ha hi hq
 simp only[Z9]at he;cases hv:Fp ((xo i).f aB)with
 |no=>rw[hv]at he;exact slow he
 |yes k j =>
  rw[hv]at he;dsimp only at he;cases j with
  |negSucc j=>cases he
  |ofNat j =>
   dsimp only at he;cases hw:aa7 ((xo a).f aB)with
   |no=>rw[hw]at he;exact slow he
   |yes l =>
    rw[hw]at he;obtain⟨u,hu,he⟩:=Qx he;obtain⟨hb,he⟩:=aew he;cases he;have hi2:=Fq hv;obtain⟨ex,ha2⟩:=UN hw;rcases ha with ha|⟨⟨t,o,ha⟩,_⟩
    .rcases hi with hi|⟨⟨t,o,hi⟩,_⟩
     .rw[afn]at hu;unfold iG;rw[<- hi,<- ha,hi2,ha2];simp only[hu,hb,cond_true]
     .rw[hi]at hi2;cases hi2
    .rw[ha]at ha2;cases ha2
def aw5{o:oM}(r:RX x e aB bx fr lo)(hs:DT x (oM.slots o)=true)(he:(Z9 o).f aB h=.ok v h'):bM o=false/\∃v',aK d o fr lo h=.ok v' lo h'/\RV v v':=by
 have one:∀{a:aC},DT x a.slots=true->RO aB fr a:=λh=>r.ro h;have two:∀{a b:aC},DT x (a.slots++b.slots)=true->RO aB fr a/\RO aB fr b:=λh=>⟨r.ro (og h).1,r.ro (og h).2⟩;have three:∀{a b c:aC},DT x (a.slots++(b.slots++c.slots))=true->RO aB fr a/\RO aB fr b/\RO aB fr c:=λh=>⟨r.ro (og h).1,r.ro (og (og h).2).1,r.ro (og (og h).2).2⟩;cases o with
 |mv a=>cases he;exact⟨rfl,_,rfl,one hs⟩
 |pick c a b =>
  obtain⟨hc,ha,hb⟩:=three hs;simp only[Z9]at he;refine⟨rfl,?_⟩;cases hv:JI ((xo c).f aB)with
  |no=>rw[hv]at he;cases he
  |yes t =>
   rw[hv]at he;have hv2:=Lc hv;rcases hc with hc|⟨⟨t,o,hc⟩,_⟩
   .rw[hv2]at hc;cases t with
    |true=>cases he;exact⟨a.ev fr,by simp only[aK,vS,<- hc];rfl,ha⟩
    |false=>cases he;exact⟨b.ev fr,by simp only[aK,vS,<- hc];rfl,hb⟩
   .rw[hc]at hv2;cases hv2
 |alloc z=>obtain⟨l,hq⟩:=gW he;cases hq
 |jy z =>
  cases he;exact⟨rfl,res (by simp only[aK,zH,afi])⟩
 |CJ a=>obtain⟨l,hq⟩:=gW he;cases hq
 |Gw a =>
  obtain⟨cs,hc,he⟩:=Qx he;obtain⟨_,hv,n1,n2⟩:=Ob (n:=0) (one hs) hc;cases he;refine⟨rfl,res ?_⟩;simp only[aK,Dq];rw[afi,hv]
 |build z ps =>
  refine⟨rfl,res ?_⟩;cases ps with
  |nil=>cases he;rfl
  |cons p ps =>
   obtain⟨l,hq⟩:=gW he;simp only[aK,cst,xE]at hq|-;cases hf:fill z (Yl (p::ps) aB) []with
   |none=>rw[hf]at hq;cases hq
   |some cs =>
    rw[hf]at hq;rw[YG (r.rop hs) hf];cases hq;rfl
 |lit z sz n ps =>
  refine⟨rfl,res ?_⟩;obtain⟨l,hq⟩:=gW he;simp only[aK,cst,GX]at hq|-;cases hf:fill (rep z n) (Yl ps aB) []with
  |none=>rw[hf]at hq;cases hq
  |some cs =>
   rw[hf]at hq;rw[YG (r.rop hs) hf];dsimp only at hq|-;cases hc:chunk sz n cs with
   |none=>rw[hc]at hq;cases hq
   |some xs=>rw[hc]at hq;cases hq;rfl
 |qR a=>exact⟨rfl,res (amg (one hs) he)⟩
 |qI n a=>exact⟨rfl,res (amh (one hs) he)⟩
 |store n a y=>exact⟨rfl,res (an8 (two hs).1 (two hs).2 he)⟩
 |tK a=>exact⟨rfl,res (amA (one hs) he)⟩
 |eq n c a b=>exact⟨rfl,res (avy (two hs).1 (two hs).2 he)⟩
 |bin op a b =>
  obtain⟨hv,rfl⟩:=auC he;have hv:=apJ hv;refine⟨rfl,res ?_⟩;refine zZ (F:=xR op) (l:=[]) (λ_ _ _ _ _=>rfl) aql arf arz (two hs).1 (two hs).2 ?_;simp only[xR,gY,aC.ev,hv,OR.eU]
 |not a =>
  simp only[Z9]at he;refine⟨rfl,res ?_⟩;cases hv:JI ((xo a).f aB)with
  |no=>rw[hv]at he;cases he
  |yes t =>
   rw[hv]at he;cases he;have hv2:=Lc hv;rcases one hs with ha|⟨⟨t,o,ha⟩,_⟩
   .rw[hv2]at ha;simp only[aK,GY,<- ha];cases t<;>rfl
   .rw[ha]at hv2;cases hv2
 |neg a=>obtain⟨l,hq⟩:=gW he;exact⟨rfl,res (Fj (F:=BQ) (λ_ _ _ _=>rfl) aqr arl (one hs) hq)⟩
 |mM k a=>obtain⟨l,hq⟩:=gW he;exact⟨rfl,res (Fj (F:=lg k) (λ_ _ _ _=>rfl) YC ZG (one hs) hq)⟩
 |zN a=>obtain⟨l,hq⟩:=gW he;exact⟨rfl,res (Fj (F:=sF) (λ_ _ _ _=>rfl) agQ ahN (one hs) hq)⟩
 |Ic a=>obtain⟨l,hq⟩:=gW he;exact⟨rfl,res (Fj (F:=xk) (λ_ _ _ _=>rfl) akT amb (one hs) hq)⟩
 |nG a=>obtain⟨l,hq⟩:=gW he;exact⟨rfl,res (Fj (F:=jE) (λ_ _ _ _=>rfl) YF ZJ (one hs) hq)⟩
 |toStr a=>obtain⟨l,hq⟩:=gW he;exact⟨rfl,res (Fj (F:=uj) (λ_ _ _ _=>rfl) agR ahO (one hs) hq)⟩
 |pF t a=>obtain⟨l,hq⟩:=gW he;exact⟨rfl,res (Fj (F:=lU t) (λ_ _ _ _=>rfl) YE ZI (one hs) hq)⟩
 |l9 fn a b =>
  obtain⟨l,hq⟩:=gW he;refine⟨rfl,res ?_⟩;simp only[aK,cst,tN]at hq|-;have hs2:DT x (uI a++uI b)=true:=hs;cases h1:iV (aC.evs (Vf a aB) [])with
  |true=>rw[h1]at hq;cases hq
  |false =>
   cases h2:iV (aC.evs (Vf b aB) [])with
   |true=>rw[h1,h2]at hq;cases hq
   |false =>
    have e1:=abT (r.ros (og hs2).1) h1;have e2:=abT (r.ros (og hs2).2) h2;rw[h1,h2]at hq;rw[e1]at h1 hq;rw[e2]at h2 hq;rw[h1,h2];cases hq;rfl
 |mkMap=>obtain⟨l,hq⟩:=gW he;cases hq;exact⟨rfl,res rfl⟩
 |ni z a b=>obtain⟨l,hq⟩:=gW he;exact⟨rfl,res (zZ (F:=kJ z) (λ_ _ _ _ _=>rfl) Vs Wi Wu (two hs).1 (two hs).2 hq)⟩
 |rU z a b=>obtain⟨l,hq⟩:=gW he;exact⟨rfl,res (zZ (F:=lS z) (λ_ _ _ _ _=>rfl) YA ZE ZM (two hs).1 (two hs).2 hq)⟩
 |mkSlice z a b=>obtain⟨l,hq⟩:=gW he;exact⟨rfl,res (zZ (F:=iC z) (λ_ _ _ _ _=>rfl) LQ LZ L9 (two hs).1 (two hs).2 hq)⟩
 |slice st sz a l hh m =>
  obtain⟨lx,hq⟩:=gW he;have hs2:DT x (a.slots++(EZ l++(EZ hh++EZ m)))=true:=hs;have q1:=og hs2;have q2:=og q1.2;have q3:=og q2.2;exact⟨rfl,res (ado (r.ro q1.1) (r.evo q2.1) (r.evo q3.1) (r.evo q3.2) hq)⟩
 |fieldAddr off a=>exact⟨rfl,res (Vu (one hs) he)⟩
 |field ag off sz a=>obtain⟨l,hq⟩:=gW he;exact⟨rfl,res (Fj (F:=qL ag off sz) (λ_ _ _ _=>rfl) agN ahK (one hs) hq)⟩
 |ji n a i=>exact⟨rfl,res (ach (two hs).1 (two hs).2 he)⟩
 |wS sz n a i=>obtain⟨l,hq⟩:=gW he;cases hq
 |index a i=>obtain⟨l,hq⟩:=gW he;exact⟨rfl,res (zZ (F:=pI) (λ_ _ _ _ _=>rfl) agO ahL ahV (two hs).1 (two hs).2 hq)⟩
 |uw ag sz n a i=>obtain⟨l,hq⟩:=gW he;exact⟨rfl,res (zZ (F:=mg ag sz n) (λ_ _ _ _ _=>rfl) abY ac1 ac9 (two hs).1 (two hs).2 hq)⟩
 |lookup kc z ok m k=>obtain⟨l,hq⟩:=gW he;exact⟨rfl,res (zZ (F:=mD kc z ok) (λ_ _ _ _ _=>rfl) abZ ac2 ada (two hs).1 (two hs).2 hq)⟩
 |vI kc m k y =>
  obtain⟨l,hq⟩:=gW he;obtain⟨h1,h2,h3⟩:=three hs;refine⟨rfl,res (axA (F:=oH kc) (λ_ _ _ _ _ _=>rfl) ab1 ?_ ?_ ?_ h1 h2 h3 hq)⟩
  .intro t o w z h v l h' hq;unfold oH at hq;dsimp only[aC.ev]at hq;cases hk:iy kc w&&!bK z<;>rw[hk]at hq<;>cases hq
  .intro t o w z h v l h' hq;unfold oH at hq;dsimp only[aC.ev]at hq;simp only[show iy kc (.aY t o)=false from rfl,Bool.false_and,cond_false]at hq;cases hq
  .intro t o w z h v l h' hq;unfold oH at hq;dsimp only[aC.ev]at hq;simp only[show bK (.aY t o)=true from rfl,Bool.not_true,Bool.and_false,cond_false]at hq;cases hq
 |wY kc z m k=>obtain⟨l,hq⟩:=gW he;cases hq
 |oz m s y=>obtain⟨l,hq⟩:=gW he;cases hq
 |extract i a =>
  simp only[Z9]at he;refine⟨rfl,res ?_⟩;cases hv:atc ((xo a).f aB)with
  |no=>rw[hv]at he;cases he
  |yes l =>
   rw[hv]at he;obtain⟨u,hu,he⟩:=Qx he;cases he;have hv2:=aop hv;rw[WC]at hu;rcases one hs with ha|⟨⟨t,o,ha⟩,_⟩
   .rw[hv2]at ha;simp only[aK,qj,<- ha,hu,OR.eU]
   .rw[ha]at hv2;cases hv2
 |len c a =>
  have slow:OX.of (vN c (gY a aB) [] [] h)=.ok v h'->vN c a fr lo h=.ok v lo h':=by
   intro hq;obtain⟨l,hq⟩:=ofX hq;exact Fj (F:=vN c) (λ_ _ _ _=>rfl) aqn ari (one hs) hq
  refine⟨rfl,res ?_⟩
  match c,he,slow with
  |0,he,slow =>
   simp only[Z9,azJ]at he;cases hv:aa7 ((xo a).f aB)with
   |no=>rw[hv]at he;exact slow he
   |yes l =>
    rw[hv]at he;cases he;obtain⟨ex,hv2⟩:=UN hv;rcases one hs with ha|⟨⟨t,o,ha⟩,_⟩
    .rw[hv2]at ha;simp only[aK,vN,<- ha,lenOf,Ja]
    .rw[ha]at hv2;cases hv2
  |c+1,he,slow=>exact slow he
 |cap a=>obtain⟨l,hq⟩:=gW he;exact⟨rfl,res (Fj (F:=BP) (λ_ _ _ _=>rfl) aqm arh (one hs) hq)⟩
 |max a b=>obtain⟨l,hq⟩:=gW he;exact⟨rfl,res (zZ (F:=zJ) (λ_ _ _ _ _=>rfl) aqo arj arA (two hs).1 (two hs).2 hq)⟩
 |min a b=>obtain⟨l,hq⟩:=gW he;exact⟨rfl,res (zZ (F:=zK) (λ_ _ _ _ _=>rfl) aqp ark arB (two hs).1 (two hs).2 hq)⟩
 |append sz a b=>obtain⟨l,hq⟩:=gW he;exact⟨rfl,res (zZ (F:=dN sz) (λ_ _ _ _ _=>rfl) O6 P5 Qa (two hs).1 (two hs).2 hq)⟩
 |qE z a b=>obtain⟨l,hq⟩:=gW he;exact⟨rfl,res (zZ (F:=lT z) (λ_ _ _ _ _=>rfl) YB ZF ZN (two hs).1 (two hs).2 hq)⟩
 |copy sz a b=>obtain⟨l,hq⟩:=gW he;exact⟨rfl,res (zZ (F:=uF sz) (λ_ _ _ _ _=>rfl) akS ama amk (two hs).1 (two hs).2 hq)⟩
 |clear z a=>obtain⟨l,hq⟩:=gW he;exact⟨rfl,res (Fj (F:=vM z) (λ_ _ _ _=>rfl) agM ahJ (one hs) hq)⟩
 |qJ a b=>obtain⟨l,hq⟩:=gW he;exact⟨rfl,res (zZ (F:=uf) (λ_ _ _ _ _=>rfl) agP ahM ahW (two hs).1 (two hs).2 hq)⟩
 |recover=>obtain⟨l,hq⟩:=gW he;cases hq;exact⟨rfl,res rfl⟩
 |bad=>obtain⟨l,hq⟩:=gW he;cases hq
end
section
open Go
variable {x:Cx}{e:List AZ}{aB uq:Fr}{bx bx':Bx}{fr fr':List V}{lo lo':Lo}{h h':H}{v v':V}{d t off:Nat}{g:Gd}
def lQ:∀{e:List AZ} {n:AZ},n∈xP d e->n∈e/\n.s≠d/\n.t≠d/\gOf n.g d=false
 |[],n,hn=>by cases hn
 |y::e,n,hn=>by
  simp only[xP]at hn;cases hq:(Nat.beq y.s d||Nat.beq y.t d||gOf y.g d)with
  |true =>
   rw[hq]at hn;have:=lQ hn;exact⟨bW _ this.1,this.2⟩
  |false =>
   rw[hq]at hn;simp only[Bool.or_eq_false_iff]at hq;rcases bU.1 hn with rfl|hn
   .exact⟨bZ,λhs=>by simp[hs]at hq,λhs=>by simp[hs]at hq,hq.2⟩
   .have:=lQ hn;exact⟨bW _ this.1,this.2⟩
def RX.sub{e':List AZ}(r:RX x e aB bx fr lo)(hs:∀n∈e',n∈e):RX x e' aB bx fr lo:=⟨r.cap,r.len,r.val,r.box,λn hn=>r.ent n (hs n hn),r.mrk⟩
def RX.kill(r:RX x e aB bx fr lo):RX x (xP d e) aB bx fr lo:=r.sub λ_ hn=>(lQ hn).1
def RX.sN(r:RX x e aB bx fr lo){d:Option Nat}:RX x (sN d e) aB bx fr lo:=by
 cases d with
 |none=>exact r
 |some d=>exact r.kill
def VK(hg:gOf g d=false)(hd:Gx (lC fr d v) g):Gx fr g:=by
 cases g with
 |none=>trivial
 |some p =>
  obtain⟨s,b⟩:=p;simp only[Gx]at hd|-;rw[dQ,if_neg (λhq=>by simp[gOf,hq.1]at hg)]at hd;exact hd
def RV.Nk(hv:RV v v'):Nk v=Nk v':=by
 rcases hv with rfl|⟨⟨t,o,rfl⟩,rfl⟩<;>rfl
def QH{s:Nat}(hs:rdS x s=true):tq x.B s=false/\tq x.PT s=false/\s<216:=by
 simp only[rdS,ah,fQ,jg]at hs;exact⟨hs.1.1,hs.1.2,hs.2⟩
def RX.set(r:RX x e aB bx fr lo)(hd:tq x.B d=false)(hn:d<x.nt)(hv:RV v v'):RX x (xP d e) ((ss d).f aB v) bx (lC fr d v') lo:=by
 have DY:d<216:=jQ hn r.cap;refine⟨r.cap,by rw[iP,r.len],λs hs=>?_,λt ht hb hne=>?_,λn hq hg=>?_,λhrf s hs=>?_⟩
 .obtain⟨_,_,hs2⟩:=QH hs;by_cases hsd:s=d
  .subst hsd;rw[Gt _ _ DY,dQ,if_pos ⟨rfl,by rw[r.len];exact hn⟩];exact hv
  .rw[BZ _ _ hs2 DY hsd,dQ,if_neg (λhq=>hsd hq.1.symm)];exact r.val s hs
 .have htd:t≠d:=by rintro rfl;rw[hb]at hd;cases hd
  rw[dQ,if_neg (λhq=>htd hq.1.symm)];exact r.box t ht hb hne
 .obtain⟨h1,h2,h3,h4⟩:=lQ hq;rw[dQ,if_neg (λhq=>h2 hq.1.symm)];exact r.ent n h1 (VK h4 hg)
 .by_cases hsd:s=d
  .subst hsd;rw[Gt _ _ DY,dQ,if_pos ⟨rfl,by rw[r.len];exact hn⟩];exact hv.Nk
  .rw[BZ _ _ hs DY hsd,dQ,if_neg (λhq=>hsd hq.1.symm)];exact r.mrk hrf s hs
def mkF(x:Cx)(d:Nat)(v:V)(aB:Fr):Fr:=bif x.rf then(ss d).f aB v else aB
def Jh(x:Cx)(d:Nat)(v:V)(k:K2)(ih:Ih2)(aB:Fr)(bx:Bx)(h:H):(TV x d v k).f ih aB bx h=k.f ih (mkF x d v aB) bx h:=by
 unfold TV mkF;cases x.rf<;>rfl
def Gf{s:Nat}(hs:s<216)(hd:d<216)(hsd:s≠d):(sg s).f (mkF x d v aB)=(sg s).f aB:=by
 unfold mkF;cases x.rf with
 |true=>exact BZ _ _ hs hd hsd
 |false=>rfl
def Qh(hd:d<216)(hrf:x.rf=true):(sg d).f (mkF x d v aB)=v:=by
 unfold mkF;rw[hrf];exact Gt _ _ hd
def RX.ptr(r:RX x e aB bx fr lo)(hp:tq x.PT d=true)(hd:tq x.B d=false)(hn:d<x.nt)(hg:Gx fr g):RX x (bif Nat.beq t d||gOf g d then xP d e else⟨d,t,off,g⟩::xP d e) (mkF x d .undef aB) bx (lC fr d (.aY t off)) lo:=by
 have DY:d<216:=jQ hn r.cap;have base:RX x (xP d e) (mkF x d .undef aB) bx (lC fr d (.aY t off)) lo:=by
  refine⟨r.cap,by rw[iP,r.len],λs hs=>?_,λt ht hb hne=>?_,λn hq hg=>?_,λhrf s hs=>?_⟩
  .obtain⟨_,h2,hs2⟩:=QH hs;have hsd:s≠d:=by rintro rfl;rw[hp]at h2;cases h2
   rw[Gf hs2 DY hsd,dQ,if_neg (λhq=>hsd hq.1.symm)];exact r.val s hs
  .have htd:t≠d:=by rintro rfl;rw[hb]at hd;cases hd
   rw[dQ,if_neg (λhq=>htd hq.1.symm)];exact r.box t ht hb hne
  .obtain⟨h1,h2,h3,h4⟩:=lQ hq;rw[dQ,if_neg (λhq=>h2 hq.1.symm)];exact r.ent n h1 (VK h4 hg)
  .by_cases hsd:s=d
   .subst hsd;rw[Qh DY hrf,dQ,if_pos ⟨rfl,by rw[r.len];exact hn⟩];rfl
   .rw[Gf hs DY hsd,dQ,if_neg (λhq=>hsd hq.1.symm)];exact r.mrk hrf s hs
 cases hq:(Nat.beq t d||gOf g d)with
 |true=>exact base
 |false =>
  refine⟨base.cap,base.len,base.val,base.box,λn hn2 hg2=>?_,base.mrk⟩;simp only[cond_false]at hn2;rcases bU.1 hn2 with rfl|hn2
  .simp only;rw[dQ,if_pos ⟨rfl,by rw[r.len];exact hn⟩]
  .exact base.ent n hn2 hg2
def wV(d:Nat):∀(fr:List V) (s:Nat),aA (fJ d fr) s=(match aA fr s with|.aY u o=>(bif Nat.beq u d then .undef else .aY u o)|v=>v)
 |[],s=>rfl
 |y::fr,0=>by
  simp only[fJ,kG];cases y<;>rfl
 |y::fr,s+1=>by
  simp only[fJ,iL];exact wV d fr s
def KE(d:Nat):∀(fr:List V),(fJ d fr).length=fr.length
 |[]=>rfl
 |y::fr=>by simp only[fJ,bP,KE d fr]
def RX.alloc{cs:List V}(r:RX x e aB bx fr lo)(hd:tq x.B d=true)(hn:d<x.nt):RX x (xP d e) (mkF x d .undef aB) ((ss d).f bx cs) (lC (fJ d fr) d (.aY d 0)) (eP lo d cs):=by
 have DY:d<216:=jQ hn r.cap;have hlen:d<(fJ d fr).length:=by rw[KE,r.len];exact hn
 refine⟨r.cap,by rw[iP,KE,r.len],λs hs=>?_,λt ht hb hne=>?_,λn hq hg=>?_,λhrf s hs=>?_⟩
 .obtain⟨h1,_,hs2⟩:=QH hs;have hsd:s≠d:=by rintro rfl;rw[hd]at h1;cases h1
  rw[Gf hs2 DY hsd,dQ,if_neg (λhq=>hsd hq.1.symm),wV];rcases r.val s hs with hv|⟨hv,hu⟩
  .cases hw:aA fr s with
   |aY u o =>
    dsimp only;cases hb:Nat.beq u d with
    |true=>exact .inr ⟨⟨u,o,hv.trans hw⟩,rfl⟩
    |false=>exact .inl (hv.trans hw)
   |_=>exact .inl (hv.trans hw)
  .rw[hu];exact .inr ⟨hv,rfl⟩
 .rw[dQ,Ai];by_cases htd:t=d
  .subst htd;rw[if_pos ⟨rfl,hlen⟩,if_pos rfl,Gt _ _ ht];exact⟨rfl,rfl⟩
  .rw[BZ _ _ ht DY htd]at hne|-;obtain⟨h1,h2⟩:=r.box t ht hb hne;rw[if_neg (λhq=>htd hq.1.symm),if_neg (Ne.symm htd),wV,h1];refine⟨?_,h2⟩;dsimp only;cases hb:Nat.beq t d with
   |true=>exact absurd (aP hb) htd
   |false=>rfl
 .obtain⟨h1,h2,h3,h4⟩:=lQ hq;rw[dQ,if_neg (λhq=>h2 hq.1.symm),wV];have hg1:=VK h4 hg;have hg2:Gx fr n.g:=by
   cases hng:n.g with
   |none=>trivial
   |some p =>
    obtain⟨s,b⟩:=p;rw[hng]at hg1;simp only[Gx]at hg1|-;rw[wV]at hg1;cases hw:aA fr s<;>rw[hw]at hg1<;>first|exact hg1|(dsimp only at hg1;rename_i u o;cases hb:Nat.beq u d<;>rw[hb]at hg1<;>cases hg1)
  rw[r.ent n h1 hg2];dsimp only;cases hb:Nat.beq n.t d with
  |true=>exact absurd (aP hb) h3
  |false=>rfl
 .by_cases hsd:s=d
  .subst hsd;rw[Qh DY hrf,dQ,if_pos ⟨rfl,hlen⟩];rfl
  .rw[Gf hs DY hsd,dQ,if_neg (λhq=>hsd hq.1.symm),wV,r.mrk hrf s hs];cases aA fr s with
   |aY u o =>
    dsimp only;cases Nat.beq u d<;>rfl
   |_=>rfl
def RX.pass(r:RX x e aB bx fr lo)(hd:tq x.B d=true)(hn:d<x.nt):RX x (xP d e) (mkF x d (.tuple []) aB) ((ss d).f bx []) (lC fr d (.tuple [])) lo:=by
 have DY:d<216:=jQ hn r.cap;refine⟨r.cap,by rw[iP,r.len],λs hs=>?_,λt ht hb hne=>?_,λn hq hg=>?_,λhrf s hs=>?_⟩
 .obtain⟨h1,_,hs2⟩:=QH hs;have hsd:s≠d:=by rintro rfl;rw[hd]at h1;cases h1
  rw[Gf hs2 DY hsd,dQ,if_neg (λhq=>hsd hq.1.symm)];exact r.val s hs
 .by_cases htd:t=d
  .subst htd;rw[Gt _ _ ht]at hne;exact absurd rfl hne
  .rw[BZ _ _ ht DY htd]at hne|-;rw[dQ,if_neg (λhq=>htd hq.1.symm)];exact r.box t ht hb hne
 .obtain⟨h1,h2,h3,h4⟩:=lQ hq;rw[dQ,if_neg (λhq=>h2 hq.1.symm)];exact r.ent n h1 (VK h4 hg)
 .by_cases hsd:s=d
  .subst hsd;rw[Qh DY hrf,dQ,if_pos ⟨rfl,by rw[r.len];exact hn⟩]
  .rw[Gf hs DY hsd,dQ,if_neg (λhq=>hsd hq.1.symm)];exact r.mrk hrf s hs
def RX.write{cs:List V}(r:RX x e aB bx fr lo)(ht:t<216)(hb:tq x.B t=true)(hne:(sg t).f bx≠[]):RX x e aB ((ss t).f bx cs) fr (eP lo t cs):=by
 refine⟨r.cap,r.len,r.val,λs hs hsb hsn=>?_,r.ent,r.mrk⟩;rw[Ai];by_cases hst:s=t
 .subst hst;rw[if_pos rfl,Gt _ _ hs];exact⟨(r.box s hs hsb hne).1,rfl⟩
 .rw[BZ _ _ hs ht hst]at hsn|-;rw[if_neg (Ne.symm hst)];exact r.box s hs hsb hsn
end
end Go.Vx
