/- A part of the proof of TopLocks. -/
import Derived.Laws.Strings
import Derived.Laws.Cells
import Derived.Laws.Tables
import Derived.Laws.CopyRow
import Derived.Maps.Range
import Derived.Test.YtbbcoelimmpbaaaGreatDoorVaa
set_option linter.all false
set_option linter.unusedVariables false
set_option linter.unusedSimpArgs false
set_option maxRecDepth 1000000
noncomputable section
open Go Go.RowKit
namespace Go.Vx
section
variable {P:Program} {comp:FuncId→Code→aH} {g g':G} {σ σ':H} {w w':World} {β:Nat→Option Nat} {lo lo':Lo} {fr:List V} {A:Act}
theorem yR {o:Option V} {v:V} (e:OR.iG o lo σ=.ok v lo' σ'):o=some v∧lo=lo'∧σ=σ':=by
 cases o with
 |none=>simp [OR.iG] at e
 |some x=>simp [OR.iG] at e;exact ⟨by rw [e.1],e.2.1,e.2.2⟩
theorem pJ:∀ a b:List Nat,kU a b=(a==b)
 |[],[]=>rfl
 |[],_::_=>rfl
 |_::_,[]=>rfl
 |a::x,b::y=>by
  have:(a::x==b::y)=(a==b&&x==y):=rfl
  rw [this,kU,pJ x y]
  congr 1
  rw [Bool.eq_iff_iff];simp
theorem Cm (a b:List UInt8):(a.map UInt8.toNat==b.map UInt8.toNat)=(a==b):=by
 rw [Bool.eq_iff_iff];simp only [beq_iff_eq]
 constructor
 ·intro h
  exact (List.map_inj_right (fun x y e=>UInt8.toNat_inj.1 e)).1 h
 ·intro h;rw [h]
theorem IX:∀ a b:List UInt8,Ii (a.map UInt8.toNat) (b.map UInt8.toNat)=Op.bytesLess a b
 |[],[]=>rfl
 |[],_::_=>rfl
 |_::_,[]=>rfl
 |a::x,b::y=>by
  simp only [List.map_cons,Ii,Op.bytesLess,IX x y]
  congr 1
  ·rw [Bool.eq_iff_iff];simp [Nat.blt_eq,UInt8.lt_iff_toNat_lt]
  ·congr 1
   rw [Bool.eq_iff_iff]
   simp only [Nat.beq_eq,beq_iff_eq]
   exact ⟨fun h=>UInt8.toNat_inj.1 h,fun h=>by rw [h]⟩
theorem toList_data (b:ByteArray):b.toList=b.data.toList:=ByteArray.toList_eq b
theorem aaM {f:Int→Int→Bool} {vx vy v:V} (e:fE f vx vy=some v):∃ k a b,vx=.int k a∧vy=.int k b∧v=.bool (f a b):=by
 cases vx with
 |int k a =>
  cases vy with
  |int k' b =>
   by_cases hk:k=k'
   ·subst hk;simp [fE,kP] at e;exact ⟨k,a,b,rfl,rfl,e.symm⟩
   ·simp [fE,kP,hk] at e
  |_=>simp [fE] at e
 |_=>simp [fE] at e
theorem Qv {f:Int→Int→Int} {vx vy v:V} (e:kC f vx vy=some v):∃ k a b,vx=.int k a∧vy=.int k b∧v=.int k (k.wrap (f a b)):=by
 cases vx with
 |int k a =>
  cases vy with
  |int k' b =>
   by_cases hk:k=k'
   ·subst hk;simp [kC,kP] at e;exact ⟨k,a,b,rfl,rfl,by rw [←e,KX]⟩
   ·simp [kC,kP,hk] at e
  |_=>simp [kC] at e
 |_=>simp [kC] at e
theorem agD {vx vy v:V} (e:kW vx vy=some v):∃ k a b,vx=.int k a∧vy=.int k b∧b≠0∧v=.int k (a.tmod b):=by
 cases vx with
 |int k a =>
  cases vy with
  |int k' b =>
   by_cases hb:b=0
   ·subst hb;simp [kW,qW] at e
   ·by_cases hk:k=k'
    ·subst hk
     simp [kW,qW,kP] at e
     have h0:(b==0)=false:=by simpa using hb
     rw [h0] at e
     simp at e
     exact ⟨k,a,b,rfl,rfl,hb,e.symm⟩
    ·simp [kW,qW,kP,hk] at e
  |_=>simp [kW] at e
 |_=>simp [kW] at e
theorem agx {vx vy v:V} (e:nD vx vy=some v):∃ k a b,vx=.int k a∧vy=.int k b∧b≠0∧v=.int k (k.wrap (a.tdiv b)):=by
 cases vy with
 |int k' b =>
  by_cases hb:b=0
  ·subst hb;simp [nD,qW] at e
  ·have h0:(b==0)=false:=by simpa using hb
   simp only [nD,qW,h0,cond_false] at e
   obtain ⟨k,a,b',h1,h2,h3⟩:=Qv e
   cases h2
   exact ⟨k',a,b,h1,rfl,hb,h3⟩
 |_=>simp [nD] at e
theorem ag7 {vx vy v:V} (e:nG vx vy=some v):∃ k k' a b,vx=.int k a∧vy=.int k' b∧¬b<0∧v=.int k (k.wrap (a*2 ^ (min b.toNat k.bits))):=by
 cases vx with
 |int k a =>
  cases vy with
  |int k' b =>
   by_cases hb:b<0
   ·simp [nG,sO,hb] at e
   ·have h0:decide (b<0)=false:=by simpa using hb
    simp only [nG,sO,h0,cond_false,aC] at e
    exact ⟨k,k',a,b,rfl,rfl,hb,e.symm⟩
  |_=>simp [nG] at e
 |_=>simp [nG] at e
theorem ag9 {vx vy v:V} (e:nH vx vy=some v):∃ k k' a b,vx=.int k a∧vy=.int k' b∧¬b<0∧v=.int k (a.fdiv (2 ^ (min b.toNat k.bits))):=by
 cases vx with
 |int k a =>
  cases vy with
  |int k' b =>
   by_cases hb:b<0
   ·simp [nH,sO,hb] at e
   ·have h0:decide (b<0)=false:=by simpa using hb
    simp only [nH,sO,h0,cond_false,aC] at e
    exact ⟨k,k',a,b,rfl,rfl,hb,e.symm⟩
  |_=>simp [nH] at e
 |_=>simp [nH] at e
theorem ac1 {d:Nat} {o:Oper} {op:BinOp} {x y:Operand} {x' y':aF} {t yt:TypeId} (hx:bQ x=some x') (hy:bQ y=some y') (ho:o.op=.binOp op t x y yt):Sound P comp d (.bin op x' y') o:=by
 intro g β σ lo fr A w v lo' σ' h e
 simp only [aZ,eY] at e
 obtain ⟨e1,rfl,rfl⟩:=yR e
 clear e
 have e:=e1
 clear e1
 have rx:=Rs.ev h.f hx
 have ry:=Rs.ev h.f hy
 generalize hvx:x'.ev fr=vx at e rx
 generalize hvy:y'.ev fr=vy at e ry
 have Zh:∀ (f:Int→Int→Bool),fE f vx vy=some v→(∀ k a b w,(binOp op t (.int k a) (.int k b)).run P w=.ok (.bool (f a b)) w)→(op≠.eql∧op≠.neq)→nU P comp g β σ w v lo σ ((execOp A.eval o).run P w):=by
  intro f e hf hne
  obtain ⟨k,a,b,rfl,rfl,rfl⟩:=aaM e
  have h1:=jv rx rfl
  have h2:=jv ry rfl
  refine .pure h (x:=.bool (f a b)) ?_ (.dP (.bool _))
  simp [execOp,ho,h1,h2,eqGuard,hne.1,hne.2,hf,Result.andThen]
 have axx:∀ (f:Int→Int→Int),kC f vx vy=some v→(∀ k a b w,(binOp op t (.int k a) (.int k b)).run P w=.ok (.int k (k.wrap (f a b))) w)→(op≠.eql∧op≠.neq)→nU P comp g β σ w v lo σ ((execOp A.eval o).run P w):=by
  intro f e hf hne
  obtain ⟨k,a,b,rfl,rfl,rfl⟩:=Qv e
  have h1:=jv rx rfl
  have h2:=jv ry rfl
  refine .pure h (x:=.int k (k.wrap (f a b))) ?_ (.dP (.int _ _))
  simp [execOp,ho,h1,h2,eqGuard,hne.1,hne.2,hf,Result.andThen]
 have hs:∀ s s',vx=.str s→vy=.str s'→∃ bs bs',A.eval x=.string bs∧A.eval y=.string bs'∧s=bs.data.toList.map UInt8.toNat∧s'=bs'.data.toList.map UInt8.toNat:=by
  intro s s' e1 e2
  obtain ⟨bs,h1,h2⟩:=sS rx e1
  obtain ⟨bs',h3,h4⟩:=sS ry e2
  exact ⟨bs,bs',h1,h3,h2,h4⟩
 cases op with
 |eql=>simp [eH] at e
 |neq=>simp [eH] at e
 |lss =>
  by_cases hstr:∃ s s',vx=.str s∧vy=.str s'
  ·obtain ⟨s,s',e1,e2⟩:=hstr
   obtain ⟨bs,bs',h1,h2,h3,h4⟩:=hs s s' e1 e2
   subst e1 e2
   simp only [eH,gq,aC] at e
   subst e
   refine .pure h (x:=.bool (Op.bytesLess bs.data.toList bs'.data.toList)) ?_ ?_
   ·simp [execOp,ho,h1,h2,eqGuard,binOp,Op.stringOp,toList_data,Result.andThen]
   ·rw [h3,h4,IX];exact .dP (.bool _)
  ·have e':fE uK vx vy=some v:=by
    simp only [eH,gq] at e
    split at e
    ·split at e
     ·exact absurd ⟨_,_,rfl,rfl⟩ hstr
     ·cases e
    ·exact e
   exact Zh uK e' (fun k a b w=>by simp [binOp,Op.intCmp,sO]) ⟨by simp,by simp⟩
 |leq=>exact Zh leI e (fun k a b w=>by simp [binOp,Op.intCmp,afu]) ⟨by simp,by simp⟩
 |gtr=>exact Zh _ e (fun k a b w=>by simp [binOp,Op.intCmp,sO]) ⟨by simp,by simp⟩
 |geq=>exact Zh _ e (fun k a b w=>by simp [binOp,Op.intCmp,afu]) ⟨by simp,by simp⟩
 |sub=>exact axx Int.sub e (fun k a b w=>by simp [binOp,Op.intArith];rfl) ⟨by simp,by simp⟩
 |mul=>exact axx Int.mul e (fun k a b w=>by simp [binOp,Op.intArith]) ⟨by simp,by simp⟩
 |add =>
  by_cases hstr:∃ s s',vx=.str s∧vy=.str s'
  ·obtain ⟨s,s',e1,e2⟩:=hstr
   obtain ⟨bs,bs',h1,h2,h3,h4⟩:=hs s s' e1 e2
   subst e1 e2
   simp only [eH,fZ] at e
   generalize hq:Nat.blt (s.length+s'.length) 4294967296=q at e
   cases q
   ·simp at e
   ·simp at e
    have hlt:=qp hq
    subst e
    have l1:bs.size=s.length:=by rw [h3];simp
    have l2:bs'.size=s'.length:=by rw [h4];simp
    refine .pure h (x:=.string (bs++bs')) ?_ ?_
    ·have hno:¬(((bs.size+bs'.size:Nat):Int) > IntKind.i64.max):=by rw [l1,l2];simp [IntKind.max,IntKind.bits,IntKind.signed];omega
     simp only [execOp,ho,h1,h2]
     simp only [eqGuard,binOp,Op.stringOp,if_neg hno]
     simp [Result.andThen]
    ·have:s++s'=(bs++bs').data.toList.map UInt8.toNat:=by rw [h3,h4];simp
     rw [this];exact .dP (.str _)
  ·have e':kC Int.add vx vy=some v:=by
    simp only [eH,fZ] at e
    split at e
    ·split at e
     ·exact absurd ⟨_,_,rfl,rfl⟩ hstr
     ·cases e
    ·exact e
   exact axx Int.add e' (fun k a b w=>by simp [binOp,Op.intArith]) ⟨by simp,by simp⟩
 |quo =>
  obtain ⟨k,a,b,rfl,rfl,hb,rfl⟩:=agx e
  have h1:=jv rx rfl
  have h2:=jv ry rfl
  refine .pure h (x:=.int k (k.wrap (a.tdiv b))) ?_ (.dP (.int _ _))
  simp [execOp,ho,h1,h2,eqGuard,binOp,Op.intDiv,hb,Result.andThen]
 |rem =>
  obtain ⟨k,a,b,rfl,rfl,hb,rfl⟩:=agD e
  have h1:=jv rx rfl
  have h2:=jv ry rfl
  refine .pure h (x:=.int k (a.tmod b)) ?_ (.dP (.int _ _))
  simp [execOp,ho,h1,h2,eqGuard,binOp,Op.intDiv,hb,Result.andThen]
 |shl =>
  obtain ⟨k,k',a,b,rfl,rfl,hb,rfl⟩:=ag7 e
  have h1:=jv rx rfl
  have h2:=jv ry rfl
  refine .pure h (x:=.int k (k.wrap (a*2 ^ (min b.toNat k.bits)))) ?_ (.dP (.int _ _))
  simp [execOp,ho,h1,h2,eqGuard,binOp,Op.shift,hb,Result.andThen]
 |shr =>
  obtain ⟨k,k',a,b,rfl,rfl,hb,rfl⟩:=ag9 e
  have h1:=jv rx rfl
  have h2:=jv ry rfl
  refine .pure h (x:=.int k (a.fdiv (2 ^ (min b.toNat k.bits)))) ?_ (.dP (.int _ _))
  simp [execOp,ho,h1,h2,eqGuard,binOp,Op.shift,hb,Result.andThen]
 |_=>simp [eH] at e
end
section
variable {P:Program} {comp:FuncId→Code→aH} {g g':G} {σ σ':H} {w w':World} {β:Nat→Option Nat} {lo lo':Lo} {fr:List V} {A:Act}
def zM (P:Program) (t:TypeId) (x y:Value) (w:World) (b:Bool):Prop:=∀ op,(op=.eql∨op=.neq)→(binOp op t x y).run P w=.ok (.bool (if op=.eql then b else !b)) w
theorem jc {t:TypeId} {x y:Value} {b:Bool} (hn:∀ k a k' c,¬(x=.int k a∧y=.int k' c)) (hs:∀ a c,¬(x=.string a∧y=.string c)) (hf:∀ k a k' c,¬(x=.float k a∧y=.float k' c))
  (hc:∀ k a a' k' c c',¬(x=.complex k a a'∧y=.complex k' c c')) (he:(Op.equal t x y).run P w=.ok b w):zM P t x y w b:=by
 intro op hop
 rcases hop with rfl|rfl
 ·have:binOp .eql t x y=(do pure (.bool (←Op.equal t x y))):=by
   unfold binOp
   split<;>first|rfl|(exfalso;first|exact hn _ _ _ _ ⟨rfl,rfl⟩|exact hs _ _ ⟨rfl,rfl⟩|exact hf _ _ _ _ ⟨rfl,rfl⟩|exact hc _ _ _ _ _ _ ⟨rfl,rfl⟩)|simp_all
  rw [this]
  simp [he,Result.andThen]
 ·have:binOp .neq t x y=(do pure (.bool (!(←Op.equal t x y)))):=by
   unfold binOp
   split<;>first|rfl|(exfalso;first|exact hn _ _ _ _ ⟨rfl,rfl⟩|exact hs _ _ ⟨rfl,rfl⟩|exact hf _ _ _ _ ⟨rfl,rfl⟩|exact hc _ _ _ _ _ _ ⟨rfl,rfl⟩)|simp_all
  rw [this]
  simp [he,Result.andThen]
theorem kD (t:TypeId) (x y:Value):Op.equal t x y=Op.equalIn (9999+1) t x y:=rfl
theorem QO {t:TypeId} {vx vy:V} {x y:Value} {b:Bool} (hx:Rs g β vx x) (hy:Rs g β vy y) (e:dZ vx vy=some b):zM P t x y w b:=by
 cases vx with
 |int k a =>
  cases vy with
  |int k' c =>
   cases jv hx rfl
   cases jv hy rfl
   by_cases hk:k=k'
   ·subst hk
    simp [dZ,kP,qW] at e
    intro op hop
    rcases hop with rfl|rfl<;>simp [binOp,Op.intCmp,←e,bne]
   ·simp [dZ,kP,hk] at e
  |_=>simp [dZ] at e
 |str s =>
  cases vy with
  |str s' =>
   obtain ⟨bs,rfl,h1⟩:=sS hx rfl
   obtain ⟨bs',rfl,h2⟩:=sS hy rfl
   simp [dZ,pJ,h1,h2,Cm] at e
   intro op hop
   rcases hop with rfl|rfl<;>simp [binOp,Op.stringOp,toList_data,←e]
  |_=>simp [dZ] at e
 |_=>simp [dZ] at e
theorem aaV {t:TypeId} (ht:P.underlying t=some .bool) {vx vy:V} {x y:Value} {b:Bool} (hx:Rs g β vx x) (hy:Rs g β vy y) (e:dK vx vy=some b):zM P t x y w b:=by
 cases vx with
 |bool a =>
  cases vy with
  |bool c =>
   cases D5 hx rfl
   cases D5 hy rfl
   refine jc (by simp) (by simp) (by simp) (by simp) ?_
   simp [dK] at e
   subst e
   rw [kD,Op.equalIn,aA,run_underlying ht]
   cases a<;>cases c<;>rfl
  |_=>simp [dK] at e
 |_=>simp [dK] at e
theorem iY {h:H} {i:Nat} {cs:List V} (e:getCells h i=some cs):h.get i=some (.cells cs):=by
 unfold getCells at e
 cases hg:h.get i with
 |none=>simp [hg] at e
 |some o=>cases o<;>simp [hg] at e;subst e;rfl
theorem wB {h:H} {i:Nat} {es:List (V×V)} (e:mO h i=some es):h.get i=some (.map es):=by
 unfold mO at e
 cases hg:h.get i with
 |none=>simp [hg] at e
 |some o=>cases o<;>simp [hg] at e;subst e;rfl
theorem Rw.cells (h:Rw P comp g σ w) {i:Nat} {cs:List V} (e:getCells σ i=some cs):∃ b n c ty,g.ρ i=some (b,n)∧w.heap[b]?=some (.cells c ty (0,0))∧c.size=n∧cs.length≤n ∧
  (∀ (j:Nat) (x:V),cs[j]?=some x→∃ v,c[j]?=some v∧Rv g x v)∧(∀ o,g.φ b o=none)∧Live g σ b:=by
 have e':=iY e
 obtain ⟨b,n,r,⟨c,ty,h1,h2,h3,h4⟩,f⟩:=h.objs i _ e'
 exact ⟨b,n,c,ty,r,h1,h2,h3,h4,f,⟨i,n,by simp [e'],r⟩⟩
theorem wz {a:Addr} {c:Array Value} {ty:TypeId} (h:w.heap[a.block]?=some (.cells c ty (0,0))):w.frozen? a=false:=by
 simp [World.frozen?,h]
theorem AL {r:Nat} {c:Array Value} {ty:TypeId} {fz:Nat×Nat} (h:w.heap[r]?=some (.cells c ty fz)):w.shape? r=some (ty,c.size):=by
 simp [World.shape?,h]
theorem P7 {a b:Addr} {c c':Array Value} {ty ty':TypeId} (h1:w.heap[a.block]?=some (.cells c ty (0,0))) (h2:w.heap[b.block]?=some (.cells c' ty' (0,0))) :
  (sameAddr a b).run P w=.ok (a==b) w:=by
 unfold sameAddr
 by_cases hb:a.block=b.block
 ·have:(a.block==b.block)=true:=by simpa using hb
  simp [this]
 ·have hbf:(a.block==b.block)=false:=by simpa using hb
  have hne:(a==b)=false:=by
   cases e:a==b with
   |false=>rfl
   |true=>exact absurd (by rw [eq_of_beq e]) hb
  have f1:∀ off spot,w.frozen? { block:=a.block,off:=off,spot:=spot }=false:=fun off spot=>wz (a:=⟨a.block,off,spot⟩) h1
  have f2:∀ off spot,w.frozen? { block:=b.block,off:=off,spot:=spot }=false:=fun off spot=>wz (a:=⟨b.block,off,spot⟩) h2
  have s1:=AL h1
  have s2:=AL h2
  have f1':=wz h1
  have f2':=wz h2
  simp [hbf,frozen,Go.shape,noView,viewAt,mayBeOne,stringish,Sem.run,Result.andThen,f1,f2,f1',f2',s1,s2,hne]
theorem QT {t el:TypeId} {sz:Nat} (ht:P.underlying t=some (.pointer el)) (hz:(P.info? el).map (·.size)=some sz) (hn:sz≠0) (hw:Rw P comp g σ w) {vx vy:V} {x y:Value} {b:Bool} (hx:Rs g β vx x) (hy:Rs g β vy y)
  (e:jB σ vx vy=some b):zM P t x y w b:=by
 have dF:∀ {v:V} {z:Value} ,Rs g β v z→(∃ i o,v=.dF i o)∨(∃ u o,v=.bf u o)∨(∃ cs,v=.gX cs)→∃ a,z=.pointer (some a):=by
  intro v z hz' hv
  rcases hv with ⟨i,o,rfl⟩|⟨u,o,rfl⟩|⟨cs,rfl⟩
  ·cases hz';exact ⟨_,rfl⟩
  ·obtain ⟨b,_,rfl⟩:=hz';exact ⟨_,rfl⟩
  ·cases hz';exact ⟨_,rfl⟩
 have hnil:∀ {z:Value},Rs g β .nilPtr z→z=.pointer none:=by intro z hz';cases hz';rfl
 have nn:∀ a,zM P t (.pointer none) (.pointer (some a)) w false:=fun a=>by
  refine jc (by simp) (by simp) (by simp) (by simp) ?_
  rw [kD,Op.equalIn,aA,run_underlying ht];rfl
 have ns:∀ a,zM P t (.pointer (some a)) (.pointer none) w false:=fun a=>by
  refine jc (by simp) (by simp) (by simp) (by simp) ?_
  rw [kD,Op.equalIn,aA,run_underlying ht];rfl
 have n0:zM P t (.pointer none) (.pointer none) w true:=by
  refine jc (by simp) (by simp) (by simp) (by simp) ?_
  rw [kD,Op.equalIn,aA,run_underlying ht];rfl
 cases vx with
 |nilPtr =>
  rw [hnil hx]
  cases vy with
  |nilPtr=>rw [hnil hy];simp [jB] at e;subst e;exact n0
  |dF i o=>obtain ⟨a,rfl⟩:=dF hy (.inl ⟨_,_,rfl⟩);simp [jB] at e;subst e;exact nn a
  |bf i o=>obtain ⟨a,rfl⟩:=dF hy (.inr (.inl ⟨_,_,rfl⟩));simp [jB] at e;subst e;exact nn a
  |gX cs=>obtain ⟨a,rfl⟩:=dF hy (.inr (.inr ⟨_,rfl⟩));simp [jB] at e;subst e;exact nn a
  |_=>simp [jB] at e
 |bf i o =>
  obtain ⟨a,rfl⟩:=dF hx (.inr (.inl ⟨_,_,rfl⟩))
  cases vy with
  |nilPtr=>rw [hnil hy];simp [jB] at e;subst e;exact ns a
  |_=>simp [jB] at e
 |gX cs =>
  obtain ⟨a,rfl⟩:=dF hx (.inr (.inr ⟨_,rfl⟩))
  cases vy with
  |nilPtr=>rw [hnil hy];simp [jB] at e;subst e;exact ns a
  |_=>simp [jB] at e
 |dF i o =>
  cases vy with
  |nilPtr=>obtain ⟨a,rfl⟩:=dF hx (.inl ⟨_,_,rfl⟩);rw [hnil hy];simp [jB] at e;subst e;exact ns a
  |dF j p =>
   simp only [jB] at e
   split at e<;>try cases e
   rename_i cs hcs
   split at e<;>try cases e
   rename_i ds hds
   generalize hq:(Nat.blt o cs.length&&Nat.blt p ds.length)=q at e
   cases q
   ·simp at e
   simp at e
   obtain ⟨b1,n1,c1,ty1,r1,hb1,_,_,_,_,l1⟩:=hw.cells hcs
   obtain ⟨b2,n2,c2,ty2,r2,hb2,_,_,_,_,l2⟩:=hw.cells hds
   cases hx with
   |dF _ hr1 =>
   cases hy with
   |dF _ hr2 =>
   rw [r1] at hr1;cases hr1
   rw [r2] at hr2;cases hr2
   refine jc (by simp) (by simp) (by simp) (by simp) ?_
   have hsz:(sizeOf el).run P w=.ok sz w:=by
    cases hi:P.info? el with
    |none=>simp [hi] at hz
    |some info=>simp [hi] at hz;simp [sizeOf,typeInfo,program,Sem.run,hi,Result.andThen,hz]
   rw [kD,Op.equalIn,aA,run_underlying ht]
   show Sem.run P (do if (←sizeOf el)≠0 then sameAddr ⟨b1,o,none⟩ ⟨b2,p,none⟩ else if ((⟨b1,o,none⟩:Addr)==⟨b2,p,none⟩)=true then pure true else pure ((←choose .zeroSizeEq)==1)) w=_
   rw [aA,hsz]
   show Sem.run P (if sz≠0 then _ else _) w=_
   rw [if_pos hn,P7 (a:=⟨b1,o,none⟩) (b:=⟨b2,p,none⟩) hb1 hb2]
   congr 1
   rw [←e,Bool.eq_iff_iff]
   simp only [beq_iff_eq,au,Nat.beq_eq]
   constructor
   ·intro h'
    cases h'
    exact ⟨hw.inj i j b1 n1 n2 (by simp [iY hcs]) (by simp [iY hds]) r1 r2,rfl⟩
   ·rintro ⟨rfl,rfl⟩
    rw [r1] at r2;cases r2;rfl
  |_=>simp [jB] at e
 |_=>simp [jB] at e
end
section
variable {P:Program} {comp:FuncId→Code→aH} {g g':G} {σ σ':H} {w w':World} {β:Nat→Option Nat} {lo lo':Lo} {fr:List V} {A:Act}
theorem anw {t el:TypeId} (ht:P.underlying t=some (.slice el)) {vx vy:V} {x y:Value} {b:Bool} (hx:Rs g β vx x) (hy:Rs g β vy y) (e:iK vx vy=some b):zM P t x y w b:=by
 have key:∀ (a a':Option Addr) (n c n' c':Nat) (b:Bool),((a=none∧b=a'.isNone)∨(a'=none∧a.isSome=true∧b=false))→zM P t (.slice a n c) (.slice a' n' c') w b:=by
  intro a a' n c n' c' b h
  refine jc (by simp) (by simp) (by simp) (by simp) ?_
  rw [kD,Op.equalIn,aA,run_underlying ht]
  rcases h with ⟨rfl,rfl⟩|⟨rfl,h2,rfl⟩
  ·rfl
  ·cases a with
   |none=>simp at h2
   |some a=>rfl
 cases vx with
 |aj =>
  cases hx
  cases vy with
  |aj=>cases hy;simp [iK] at e;subst e;exact key _ _ _ _ _ _ _ (.inl ⟨rfl,rfl⟩)
  |list _ _=>cases hy;simp [iK] at e;subst e;exact key _ _ _ _ _ _ _ (.inl ⟨rfl,rfl⟩)
  |hsl _ _ _ _ _=>cases hy;simp [iK] at e;subst e;exact key _ _ _ _ _ _ _ (.inl ⟨rfl,rfl⟩)
  |_=>simp [iK] at e
 |list _ _ =>
  cases hx
  cases vy with
  |aj=>cases hy;simp [iK] at e;subst e;exact key _ _ _ _ _ _ _ (.inr ⟨rfl,rfl,rfl⟩)
  |_=>simp [iK] at e
 |hsl _ _ _ _ _ =>
  cases hx
  cases vy with
  |aj=>cases hy;simp [iK] at e;subst e;exact key _ _ _ _ _ _ _ (.inr ⟨rfl,rfl,rfl⟩)
  |_=>simp [iK] at e
 |_=>simp [iK] at e
theorem aen {t k el:TypeId} (ht:P.underlying t=some (.map k el)) {vx vy:V} {x y:Value} {b:Bool} (hx:Rs g β vx x) (hy:Rs g β vy y) (e:wo vx vy=some b):zM P t x y w b:=by
 have key:∀ (a a':Option Nat) (b:Bool),((a=none∧b=a'.isNone)∨(a'=none∧a.isSome=true∧b=false))→zM P t (.map a) (.map a') w b:=by
  intro a a' b h
  refine jc (by simp) (by simp) (by simp) (by simp) ?_
  rw [kD,Op.equalIn,aA,run_underlying ht]
  rcases h with ⟨rfl,rfl⟩|⟨rfl,h2,rfl⟩
  ·rfl
  ·cases a with
   |none=>simp at h2
   |some a=>rfl
 cases vx with
 |dV =>
  cases hx
  cases vy with
  |dV=>cases hy;simp [wo] at e;subst e;exact key _ _ _ (.inl ⟨rfl,rfl⟩)
  |map _=>cases hy;simp [wo] at e;subst e;exact key _ _ _ (.inl ⟨rfl,rfl⟩)
  |_=>simp [wo] at e
 |map _ =>
  cases hx
  cases vy with
  |dV=>cases hy;simp [wo] at e;subst e;exact key _ _ _ (.inr ⟨rfl,rfl,rfl⟩)
  |_=>simp [wo] at e
 |_=>simp [wo] at e
theorem ant {t:TypeId} {ps rs:Array TypeId} {va:Bool} (ht:P.underlying t=some (.func ps rs va)) {vx vy:V} {x y:Value} {b:Bool} (hx:Rs g β vx x) (hy:Rs g β vy y) (e:eqFn vx vy=some b):zM P t x y w b:=by
 cases vx with
 |nilFunc =>
  cases hx
  cases vy with
  |nilFunc =>
   cases hy;simp [eqFn] at e;subst e
   refine jc (by simp) (by simp) (by simp) (by simp) ?_
   rw [kD,Op.equalIn,aA,run_underlying ht];rfl
  |func _ _ _ =>
   cases hy;simp [eqFn] at e;subst e
   refine jc (by simp) (by simp) (by simp) (by simp) ?_
   rw [kD,Op.equalIn,aA,run_underlying ht];rfl
  |_=>simp [eqFn] at e
 |func _ _ _ =>
  cases hx
  cases vy with
  |nilFunc =>
   cases hy;simp [eqFn] at e;subst e
   refine jc (by simp) (by simp) (by simp) (by simp) ?_
   rw [kD,Op.equalIn,aA,run_underlying ht];rfl
  |_=>simp [eqFn] at e
 |_=>simp [eqFn] at e
theorem anu {t:TypeId} {ms:Array (String×TypeId)} (ht:P.underlying t=some (.interface ms)) {vx vy:V} {x y:Value} {b:Bool} (hx:Rs g β vx x) (hy:Rs g β vy y) (e:zG vx vy=some b):zM P t x y w b:=by
 cases vx with
 |nilIface =>
  cases hx
  cases vy with
  |nilIface =>
   cases hy;simp [zG] at e;subst e
   refine jc (by simp) (by simp) (by simp) (by simp) ?_
   rw [kD,Op.equalIn,aA,run_underlying ht];rfl
  |iface _ _ =>
   cases hy;simp [zG] at e;subst e
   refine jc (by simp) (by simp) (by simp) (by simp) ?_
   rw [kD,Op.equalIn,aA,run_underlying ht];rfl
  |_=>simp [zG] at e
 |iface _ _ =>
  cases hx
  cases vy with
  |nilIface =>
   cases hy;simp [zG] at e;subst e
   refine jc (by simp) (by simp) (by simp) (by simp) ?_
   rw [kD,Op.equalIn,aA,run_underlying ht];rfl
  |_=>simp [zG] at e
 |_=>simp [zG] at e
theorem amT {t:TypeId} {x y:Operand} {c:Nat} (hc:adW P t x y=some c) (hw:Rw P comp g σ w) {vx vy:V} {X Y:Value} {b:Bool} (hx:Rs g β vx X) (hy:Rs g β vy Y) (e:lH σ c vx vy=some b) :
  zM P t X Y w b∧(isC x=true∨isC y=true∨¬(X=.nilIface∧Y=.nilIface))∧¬(∃ a a',X=.agg a∧Y=.agg a'):=by
 unfold adW at hc
 cases hu:P.underlying t with
 |none=>simp [hu] at hc
 |some d =>
  simp only [hu,iJ,Option.bind_some] at hc
  have aBH:∀ {v:V} {Z:Value} {a:Array Value},Rs g β v Z→Z=.agg a→v=.undef∨∃ cs,v=.agg cs:=by
   intro v Z a h he;subst he;cases v<;>first|exact .inl rfl|exact .inr ⟨_,rfl⟩|(exfalso;cases h;done)|(exfalso;obtain ⟨_,_,h⟩:=h;cases h)
  have aLm:∀ {v:V} {Z:Value},Rs g β v Z→Z=.nilIface→v=.undef∨v=.nilIface:=by
   intro v Z h he;subst he;cases v<;>first|exact .inl rfl|exact .inr rfl|(exfalso;cases h;done)|(exfalso;obtain ⟨_,_,h⟩:=h;cases h)
  have fin:∀ {b:Bool},zM P t X Y w b→(∀ {z:V},(vx=.undef→False)∧(∀ cs,vx=.agg cs→False))→(isC x=true∨isC y=true∨vx≠.nilIface) →
    zM P t X Y w b∧(isC x=true∨isC y=true∨¬(X=.nilIface∧Y=.nilIface))∧¬(∃ a a',X=.agg a∧Y=.agg a'):=by
   intro b h1 h2 h3
   refine ⟨h1,?_,?_⟩
   ·rcases h3 with h3|h3|h3
    ·exact .inl h3
    ·exact .inr (.inl h3)
    ·refine .inr (.inr fun hh=>?_)
     rcases aLm hx hh.1 with e1|e1
     ·exact (h2 (z:=.undef)).1 e1
     ·exact h3 e1
   ·rintro ⟨a,a',ha,_⟩
    rcases aBH hx ha with e1|⟨cs,e1⟩
    ·exact (h2 (z:=.undef)).1 e1
    ·exact (h2 (z:=.undef)).2 cs e1
  cases d with
  |int k =>
   simp at hc;subst hc
   exact fin (QO hx hy e) (by intro z;constructor<;>intros<;>subst_vars<;>simp [lH,dZ] at e) (.inr (.inr (by rintro rfl;simp [lH,dZ] at e)))
  |string =>
   simp at hc;subst hc
   exact fin (QO hx hy e) (by intro z;constructor<;>intros<;>subst_vars<;>simp [lH,dZ] at e) (.inr (.inr (by rintro rfl;simp [lH,dZ] at e)))
  |bool =>
   simp at hc;subst hc
   exact fin (aaV hu hx hy e) (by intro z;constructor<;>intros<;>subst_vars<;>simp [lH,dK] at e) (.inr (.inr (by rintro rfl;simp [lH,dK] at e)))
  |pointer el =>
   simp only [kM] at hc
   cases hz:P.info? el with
   |none=>simp [hz] at hc
   |some inf =>
    simp [hz] at hc
    obtain ⟨hn,rfl⟩:=hc
    exact fin (QT (sz:=inf.size) hu (by simp [hz]) hn hw hx hy e) (by intro z;constructor<;>intros<;>subst_vars<;>simp [lH,jB] at e) (.inr (.inr (by rintro rfl;simp [lH,jB] at e)))
  |slice el =>
   simp at hc;subst hc
   exact fin (anw hu hx hy e) (by intro z;constructor<;>intros<;>subst_vars<;>simp [lH,iK] at e) (.inr (.inr (by rintro rfl;simp [lH,iK] at e)))
  |map k el =>
   simp at hc;subst hc
   exact fin (aen hu hx hy e) (by intro z;constructor<;>intros<;>subst_vars<;>simp [lH,wo] at e) (.inr (.inr (by rintro rfl;simp [lH,wo] at e)))
  |func ps rs va =>
   simp at hc;subst hc
   exact fin (ant hu hx hy e) (by intro z;constructor<;>intros<;>subst_vars<;>simp [lH,eqFn] at e) (.inr (.inr (by rintro rfl;simp [lH,eqFn] at e)))
  |interface ms =>
   by_cases hq:isC x=true∨isC y=true
   ·simp [hq] at hc;subst hc
    exact fin (anu hu hx hy (uY e)) (by intro z;constructor<;>intros<;>subst_vars<;>(replace e:=uY e;simp [zG] at e)) (by rcases hq with h|h;exact .inl h;exact .inr (.inl h))
   ·simp [hq] at hc
  |_=>simp at hc
theorem UF {op:BinOp} {t:TypeId} {x y:Operand} {a b:Value} (hop:op=.eql∨op=.neq) (hg:isC x=true∨isC y=true∨¬(a=.nilIface∧b=.nilIface)) (hag:¬∃ c c',a=.agg c∧b=.agg c') :
  (eqGuard op t x y a b).run P w=.ok () w:=by
 have hnil:∀ {op:BinOp},(op=.eql∨op=.neq)→(isC x=true∨isC y=true)→(eqGuard op t x y .nilIface .nilIface).run P w=.ok () w:=by
  intro op hop hc
  rcases hop with rfl|rfl<;>cases x<;>cases y<;>first|rfl|(simp [isC] at hc;done)
 have hop':=hop
 rcases hop with rfl|rfl<;>cases a<;>first|rfl|skip
 all_goals (cases b<;>first|rfl|skip)
 all_goals first
  |exact absurd ⟨_,_,rfl,rfl⟩ hag
  |(rcases hg with hg|hg|hg
    ·exact hnil hop' (.inl hg)
    ·exact hnil hop' (.inr hg)
    ·exact absurd ⟨rfl,rfl⟩ hg)
theorem UO {d:Nat} {o:Oper} {op:BinOp} {neg:Bool} {c:Nat} {x y:Operand} {x' y':aF} {t yt:TypeId} (hx:bQ x=some x') (hy:bQ y=some y') (hc:adW P t x y=some c)
  (hop:op=if neg then .neq else .eql) (ho:o.op=.binOp op t x y yt):Sound P comp d (.eq neg c x' y') o:=by
 intro g β σ lo fr A w v lo' σ' h e
 simp only [aZ,iE] at e
 obtain ⟨e1,rfl,rfl⟩:=yR e
 clear e
 obtain ⟨b,hb,hv⟩:∃ b,lH σ c (x'.ev fr) (y'.ev fr)=some b∧v=.bool (if neg then !b else b):=by
  cases neg
  ·simp only [cond_false,gJ] at e1
   cases hq:lH σ c (x'.ev fr) (y'.ev fr) with
   |none=>rw [hq] at e1;cases e1
   |some b=>rw [hq] at e1;cases e1;exact ⟨b,rfl,rfl⟩
  ·simp only [cond_true,jF] at e1
   cases hq:lH σ c (x'.ev fr) (y'.ev fr) with
   |none=>rw [hq] at e1;cases e1
   |some b=>rw [hq] at e1;cases e1;exact ⟨b,rfl,rfl⟩
 obtain ⟨hq,hg,hag⟩:=amT hc h.w (Rs.ev h.f hx) (Rs.ev h.f hy) hb
 refine .pure h (x:=.bool (if neg then !b else b)) ?_ (by rw [hv];exact .dP (.bool _))
 have hguard:(eqGuard op t x y (A.eval x) (A.eval y)).run P w=.ok () w:=UF (by rw [hop];cases neg<;>simp) hg hag
 have:=hq op (by rw [hop];cases neg<;>simp)
 simp only [execOp,ho]
 simp [hguard,this,Result.andThen]
 rw [hop];cases neg<;>simp
end
section
variable {P:Program} {comp:FuncId→Code→aH} {g g':G} {σ σ':H} {w w':World} {β:Nat→Option Nat} {lo lo':Lo} {fr:List V} {A:Act}
theorem ac7 {d:Nat} {o:Oper} {x:Operand} {y:aF} {t:TypeId} (hx:bQ x=some y) (ho:o.op=.unOp .neg t x):Sound P comp d (.neg y) o:=by
 intro g β σ lo fr A w v lo' σ' h e
 simp only [aZ,xR] at e
 split at e
 ·rename_i k n hb
  simp only [OR.ok.injEq] at e
  obtain ⟨rfl,rfl,rfl⟩:=e
  have hv:=jv (Rs.ev h.f hx) hb
  exact .pure h (x:=.int k (k.wrap (0-n))) (by simp [execOp,ho,hv,Op.unary,Op.intArith]) (by rw [KX];exact .dP (.int _ _))
 ·cases e
theorem LP {d:Nat} {o:Oper} {x:Operand} {y:aF} {s t:TypeId} {k:IntKind} {ds:TypeDesc} (hs:P.underlying s=some ds) (ht:P.underlying t=some (.int k)) (hx:bQ x=some y) (ho:o.op=.convert s t x):Sound P comp d (.iF k y) o:=by
 intro g β σ lo fr A w v lo' σ' h e
 simp only [aZ,aS] at e
 split at e
 ·rename_i k' n hb
  simp only [OR.ok.injEq] at e
  obtain ⟨rfl,rfl,rfl⟩:=e
  have hv:=jv (Rs.ev h.f hx) hb
  refine .pure h (x:=.int k (k.wrap n)) ?_ (by rw [KX];exact .dP (.int _ _))
  simp only [execOp,ho,hv,convert]
  simp [run_underlying hs,run_underlying ht,Result.andThen]
  cases ds<;>simp [Conv.intToInt]
 ·cases e
theorem U0 {d:Nat} {o:Oper} {x:Operand} {y:aF} (hx:bQ x=some y) (ho:o.op=.nilCheck x):Sound P comp d (.ji y) o:=by
 intro g β σ lo fr A w v lo' σ' h e
 have hr:=Rs.ev h.f hx
 simp only [aZ,cZ] at e
 generalize hv:y.ev fr=vx at e hr
 have fin:∀ x',A.eval x=x'→(x'≠.pointer none∧x'≠.nilIface∧x'≠.nilFunc∧∀ n a b,x'≠.func (.method n) a b)→nU P comp g β σ w vx lo σ ((execOp A.eval o).run P w):=by
  intro x' hx' hn
  refine .pure h (x:=x') ?_ (by rw [←hx'];exact hr)
  simp only [execOp,ho,hx']
  split
  ·exact absurd rfl hn.1
  ·exact absurd rfl hn.2.1
  ·exact absurd rfl hn.2.2.1
  ·exact absurd rfl (hn.2.2.2 _ _ _)
  ·simp
 cases vx with
 |nilPtr=>cases e
 |nilFunc=>cases e
 |nilIface=>cases e
 |undef=>cases e
 |bf t off =>
  simp only [OR.ok.injEq] at e;obtain ⟨rfl,rfl,rfl⟩:=e
  obtain ⟨b,_,hb⟩:=hr
  exact fin _ hb (by simp)
 |func fn a b =>
  simp only [OR.ok.injEq] at e;obtain ⟨rfl,rfl,rfl⟩:=e
  have hr':=hr
  generalize hq:A.eval x=q at hr'
  cases hr' with
  |func hf _ _ _ _=>cases hf<;>exact fin _ hq (by simp)
 |_ =>
  simp only [OR.ok.injEq] at e;obtain ⟨rfl,rfl,rfl⟩:=e
  have hr':=hr
  generalize hq:A.eval x=q at hr'
  cases hr'<;>exact fin _ hq (by simp)
theorem JE (i:Nat) (xs:List V):bn i xs=xs[i]?:=by
 have:∀ (i:Nat) (xs:List V),skip i xs=xs.drop i:=by
  intro i
  induction i with
  |zero=>intro xs;cases xs<;>rfl
  |succ i ih=>intro xs;cases xs<;>simp [skip,ih]
 unfold bn
 rw [this]
 cases h:xs.drop i with
 |nil =>
  have:xs.length≤i:=by simpa using h
  simp [gI this]
 |cons y ys =>
  have:(xs.drop i)[0]?=some y:=by rw [h];rfl
  simpa using this.symm
theorem rV:∀ (i:Nat) (xs:List V),skip i xs=xs.drop i:=by
 intro i
 induction i with
 |zero=>intro xs;cases xs<;>rfl
 |succ i ih=>intro xs;cases xs<;>simp [skip,ih]
theorem mX:∀ {n:Nat} {xs ys:List V},takeN n xs=some ys→n≤xs.length∧ys=xs.take n:=by
 intro n
 induction n with
 |zero=>intro xs ys h;simp [takeN] at h;subst h;simp
 |succ n ih =>
  intro xs ys h
  cases xs with
  |nil=>simp [takeN] at h
  |cons x xs =>
   simp only [takeN] at h
   cases hq:takeN n xs with
   |none=>simp [hq] at h
   |some r=>simp [hq] at h;subst h;obtain ⟨h1,h2⟩:=ih hq;subst h2;simp;omega
theorem LQ {d:Nat} {o:Oper} {x:Operand} {y:aF} {i:Nat} (hx:bQ x=some y) (ho:o.op=.extract x i):Sound P comp d (.extract i y) o:=by
 intro g β σ lo fr A w v lo' σ' h e
 have hr:=Rs.ev h.f hx
 simp only [aZ,aX] at e
 generalize hv:y.ev fr=vx at e hr
 cases vx<;>try (cases e;done)
 rename_i vs
 obtain ⟨e1,rfl,rfl⟩:=yR e
 rw [JE] at e1
 obtain ⟨W,hW,hs⟩:=Rv.NU (g:=g) hr
 obtain ⟨z,hz,yK⟩:=hs.get e1
 refine .pure h (x:=z) ?_ (.dP yK)
 have hz':W[i]?=some z:=by simpa using hz
 simp [execOp,ho,hW,Instr.extract,hz',Result.andThen]
theorem LV {d:Nat} {o:Oper} {x:Operand} {y:aF} {t:TypeId} {ds:TypeDesc} (ht:P.underlying t=some ds) (hn:∀ ms,ds≠.interface ms) (hx:bQ x=some y) (ho:o.op=.makeInterface t x):Sound P comp d (.gY t y) o:=by
 intro g β σ lo fr A w v lo' σ' h e
 have hr:=Rs.ev h.f hx
 simp only [aZ,kJ] at e
 generalize hv:y.ev fr=vx at e hr
 have fin:Rv g vx (A.eval x)→nU P comp g β σ w (.iface t vx) lo σ ((execOp A.eval o).run P w):=fun Lc=>by
  refine .pure h (x:=.iface t (A.eval x)) ?_ (.dP (.iface t Lc))
  simp only [execOp,ho,Instr.makeInterface]
  rw [aA,aA,run_underlying ht]
  cases ds<;>first|rfl|exact absurd rfl (hn _)
 cases hb:Nat.beq t 1000000 with
 |true=>rw [hb] at e;cases vx<;>cases e
 |false =>
 rw [hb] at e
 cases vx with
 |bf t off=>cases e
 |_ =>
  simp only [cond_false,OR.ok.injEq] at e;obtain ⟨rfl,rfl,rfl⟩:=e
  exact fin (hr.rv (by simp))
theorem UR {d:Nat} {o:Oper} {x i:Operand} {x' i':aF} {t:TypeId} (ht:P.underlying t=some .string) (hx:bQ x=some x') (hi:bQ i=some i') (ho:o.op=.index t x i):Sound P comp d (.index x' i') o:=by
 intro g β σ lo fr A w v lo' σ' h e
 have hr:=Rs.ev h.f hx
 have DT:=Rs.ev h.f hi
 simp only [aZ,mV] at e
 generalize hv:x'.ev fr=vx at e hr
 generalize hvi:i'.ev fr=vi at e DT
 cases vx<;>try (cases e;done)
 rename_i s
 cases vi<;>try (cases e;done)
 rename_i k n
 cases n with
 |negSucc n=>cases e
 |ofNat n =>
 obtain ⟨bs,hb,hs⟩:=sS hr rfl
 have hq:=jv DT rfl
 have hng:∀ (l:List Nat) (n:Nat),JL l n=l[n]?:=by
  intro l
  induction l with
  |nil=>intro n;rfl
  |cons a l ih=>intro n;cases n<;>simp [JL,ih]
 dsimp only at e
 rw [hng,hs] at e
 simp only [List.getElem?_map] at e
 cases hc:bs.data.toList[n]? with
 |none=>simp [hc] at e
 |some c =>
  simp [hc] at e
  obtain ⟨rfl,rfl,rfl⟩:=e
  refine .pure h (x:=.int .u8 c.toNat) ?_ (.dP (.int _ _))
  have hlt:n<bs.size:=by have:=(iW.1 hc).1;simpa using this
  have hc':bs[n]?=some c:=by
   rw [getElem?_pos bs n hlt]
   have:=(iW.1 hc).2
   rw [←this];rfl
  simp only [execOp,ho,Instr.index,hb,hq,asIntOf]
  rw [aA,aA,Sem.run_pure,Result.andThen,aA,run_underlying ht]
  have h0:(0:Int)≤Int.ofNat n:=Int.natCast_nonneg n
  simp only [Result.andThen,if_pos h0]
  have:(Int.ofNat n).toNat=n:=rfl
  rw [this,hc']
  rfl
end
section
variable {P:Program} {comp:FuncId→Code→aH} {g g':G} {σ σ':H} {w w':World} {β:Nat→Option Nat} {lo lo':Lo} {fr:List V} {A:Act}
theorem lK (b o n:Nat):(⟨b,o,none⟩:Addr).add n=⟨b,o+n,none⟩:=by
 unfold Addr.add;by_cases h:n=0
 ·subst h;simp
 ·simp [h]
theorem Dj (hb:Rb g σ β lo w) (hw:Rw P comp g σ w) {v:V} {X:Value} {cs:List V} (hr:Rs g β v X) (e:bg v lo σ=some cs) :
  ∃ b o,X=.pointer (some ⟨b,o,none⟩)∧∀ (j:Nat) (c:V),cs[j]?=some c→∃ x,w.cell? ⟨b,o+j,none⟩=some x∧Rv g c x:=by
 cases v with
 |bf t off =>
  simp only [bg] at e
  obtain ⟨b,hbt,rfl⟩:=hr
  split at e<;>try cases e
  rename_i cs' hl
  obtain ⟨cs'',c,ty,h1,h2,h3,h4⟩:=hb.boxes t b hbt
  rw [hl] at h1;cases h1
  refine ⟨b,off,rfl,fun j x hx=>?_⟩
  rw [rV,List.getElem?_drop] at hx
  obtain ⟨z,hz,yK⟩:=h4 _ _ hx
  exact ⟨z,by rw [rZ h2];exact hz,yK⟩
 |dF i off =>
  simp only [bg] at e
  cases hr with
  |dF _ DT =>
  split at e<;>try cases e
  rename_i cs' hl
  obtain ⟨b1,n1,c,ty,r,h2,_,_,h4,_,_⟩:=hw.cells hl
  rw [r] at DT;cases DT
  refine ⟨_,off,rfl,fun j x hx=>?_⟩
  rw [rV,List.getElem?_drop] at hx
  obtain ⟨z,hz,yK⟩:=h4 _ _ hx
  exact ⟨z,by rw [rZ h2];exact hz,yK⟩
 |gX cs' =>
  simp only [bg,aC] at e
  subst e
  cases hr with
  |gX vs h1 h2 =>
  exact ⟨_,_,rfl,fun j x hx=>⟨vs j,hw.frozen _ _ _ (h1 j x hx),h2 j x hx⟩⟩
 |_=>simp [bg] at e
theorem uO {t:TypeId} {b:Bool} (h:Fj P t=some b):(isAgg t).run P w=.ok b w:=by
 unfold Fj at h
 cases hu:P.underlying t with
 |none=>simp [hu] at h
 |some d =>
  unfold isAgg
  rw [aA,run_underlying hu]
  cases d<;>simp [hu] at h<;>subst h<;>rfl
theorem iV {t:TypeId} {n:Nat} (h:kM P t=some n):(sizeOf t).run P w=.ok n w:=by
 unfold kM at h
 cases hi:P.info? t with
 |none=>simp [hi] at h
 |some info=>simp [hi] at h;simp [sizeOf,typeInfo,program,Sem.run,hi,Result.andThen,h]
theorem UU {d:Nat} {o:Oper} {x:Operand} {y:aF} {t:TypeId} (ha:Fj P t=some false) (hx:bQ x=some y) (ho:o.op=.load t x):Sound P comp d (.mF y) o:=by
 intro g β σ lo fr A w v lo' σ' h e
 simp only [aZ,cu] at e
 split at e<;>try cases e
 rename_i cs hc
 cases cs with
 |nil=>cases e
 |cons c cs' =>
 simp only [OR.ok.injEq] at e
 obtain ⟨rfl,rfl,rfl⟩:=e
 obtain ⟨b,off,hX,hcell⟩:=Dj h.b h.w (Rs.ev h.f hx) hc
 obtain ⟨z,hz,yK⟩:=hcell 0 c rfl
 refine .pure h (x:=z) ?_ (.dP yK)
 have hz':w.cell? ⟨b,off,none⟩=some z:=hz
 simp only [execOp,ho,Instr.loadAt,hX,Instr.sureAddr]
 rw [aA,aA,Sem.run_pure,Result.andThen,loadVar,aA,uO ha]
 simp [Result.andThen,hz']
theorem UW {d:Nat} {o:Oper} {x:Operand} {y:aF} {t:TypeId} {n:Nat} (ha:Fj P t=some true) (hn:kM P t=some n) (hx:bQ x=some y) (ho:o.op=.load t x):Sound P comp d (.nR n y) o:=by
 intro g β σ lo fr A w v lo' σ' h e
 simp only [aZ,cO] at e
 split at e<;>try cases e
 rename_i cs hc
 split at e<;>try cases e
 rename_i r hr
 obtain ⟨b,off,hX,hcell⟩:=Dj h.b h.w (Rs.ev h.f hx) hc
 obtain ⟨hlen,rfl⟩:=mX hr
 have hcell':∀ j,j<n→∃ z,w.cell? ⟨b,off+j,none⟩=some z∧∀ c,cs[j]?=some c→Rv g c z:=by
  intro j hj
  obtain ⟨z,hz,yK⟩:=hcell j cs[j] (fM (by omega))
  exact ⟨z,hz,fun c hc'=>by rw [fM (by omega)] at hc';cases hc';exact yK⟩
 have aeW:∃ f:Nat→Value,∀ j,j<n→w.cell? ⟨b,off+j,none⟩=some (f j)∧∀ c,cs[j]?=some c→Rv g c (f j):=by
  refine ⟨fun j=>if hj:j<n then (hcell' j hj).choose else undef,fun j hj=>?_⟩
  simp only [hj,dif_pos]
  exact (hcell' j hj).choose_spec
 obtain ⟨f,hf⟩:=aeW
 have hrun:=run_loadCells (P:=P) w ⟨b,off,none⟩ n f (fun j hj=>by rw [lK];exact (hf j hj).1)
 refine .pure h (x:=.agg ((List.range n).map f).toArray) ?_ (.dP (.JJ ?_))
 ·simp only [execOp,ho,Instr.loadAt,hX,Instr.sureAddr]
  rw [aA,aA,Sem.run_pure,Result.andThen,loadVar,aA,uO ha]
  simp only [Result.andThen,if_true]
  simp only [aA,iV hn,Result.andThen,hrun]
  rfl
 ·refine ⟨by simp;omega,fun j c z hc' hz=>?_⟩
  simp [List.getElem?_take] at hc'
  obtain ⟨hj,hc'⟩:=hc'
  have:(List.range n)[j]?=some j:=by simp [hj]
  simp [this] at hz
  subst hz
  exact (hf j hj).2 c hc'
theorem Gu {t:TypeId} {i off sz:Nat} {ag:Bool} (h:Fp P t i=some (off,ag,sz)):∃ fs f,P.underlying t=some (.struct fs)∧fs[i]?=some f∧f.offset=off∧Fj P f.type=some ag∧kM P f.type=some sz:=by
 unfold Fp at h
 cases hu:P.underlying t with
 |none=>simp [hu] at h
 |some d =>
  cases d<;>simp [hu] at h
  rename_i fs
  cases hf:fs[i]? with
  |none=>simp [hf] at h
  |some f =>
   simp [hf] at h
   cases ha:Fj P f.type with
   |none=>simp [ha] at h
   |some a =>
    cases hs:kM P f.type with
    |none=>simp [ha,hs] at h
    |some s=>simp [ha,hs] at h;obtain ⟨rfl,rfl,rfl⟩:=h;exact ⟨fs,f,rfl,hf,rfl,ha,hs⟩
theorem Rv.abd {cs:List V} {X:Value} (h:Rv g (.gX cs) X) (n:Nat):∃ b o,X=.pointer (some ⟨b,o,none⟩)∧Rv g (.gX (skip n cs)) (.pointer (some ⟨b,o+n,none⟩)):=by
 cases h with
 |gX vs h1 h2 =>
  refine ⟨_,_,rfl,.gX (fun j=>vs (n+j)) (fun j c hc=>?_) (fun j c hc=>?_)⟩
  ·rw [rV,List.getElem?_drop] at hc
   rw [Nat.add_assoc];exact h1 _ _ hc
  ·rw [rV,List.getElem?_drop] at hc
   exact h2 _ _ hc
theorem H9 {d:Nat} {o:Oper} {x:Operand} {y:aF} {t:TypeId} {i off sz:Nat} {ag:Bool} (hf:Fp P t i=some (off,ag,sz)) (hz:sz≠0) (hx:bQ x=some y) (ho:o.op=.fieldAddr t x i) :
  Sound P comp d (.fieldAddr off y) o:=by
 obtain ⟨fs,f,hu,hfi,hoff,_,hs⟩:=Gu hf
 intro g β σ lo fr A w v lo' σ' h e
 have hr:=Rs.ev h.f hx
 have hrun:∀ b p,A.eval x=.pointer (some ⟨b,p,none⟩)→(execOp A.eval o).run P w=.ok (.value (.pointer (some ⟨b,p+off,none⟩))) w:=by
  intro b p hX
  simp only [execOp,ho,Instr.fieldAt,hX,Instr.sureAddr]
  rw [aA,aA,run_underlying hu]
  simp only [Result.andThen,hfi]
  simp only [aA,Sem.run_pure,Result.andThen,fieldPlace,iV hs,hz,if_false,Sem.run_ite]
  rw [lK,hoff]
 simp only [aZ,aK] at e
 generalize hv:y.ev fr=vx at e hr
 cases vx with
 |bf u p =>
  simp only [OR.ok.injEq] at e;obtain ⟨rfl,rfl,rfl⟩:=e
  obtain ⟨b,hb,hX⟩:=hr
  exact .pure h (hrun b p hX) ⟨b,hb,rfl⟩
 |dF u p =>
  simp only [OR.ok.injEq] at e;obtain ⟨rfl,rfl,rfl⟩:=e
  generalize hq:A.eval x=q at hr
  cases hr with
  |dF _ DT=>exact .pure h (hrun _ p hq) (.dP (.dF _ DT))
 |gX cs =>
  simp only [OR.ok.injEq] at e;obtain ⟨rfl,rfl,rfl⟩:=e
  obtain ⟨b,p,hX,hk⟩:=Rv.abd (g:=g) hr off
  exact .pure h (hrun b p hX) (.dP hk)
 |_=>cases e
theorem Qa {d:Nat} {o:Oper} {x i:Operand} {x' i':aF} {t el:TypeId} {n sz:Nat} (hu:P.underlying t=some (.array n el)) (hs:kM P el=some sz) (hx:bQ x=some x') (hi:bQ i=some i') (ho:o.op=.indexAddr t x i) :
  Sound P comp d (.qZ sz n x' i') o:=by
 intro g β σ lo fr A w v lo' σ' h e
 have hr:=Rs.ev h.f hx
 have DT:=Rs.ev h.f hi
 simp only [aZ,sJ] at e
 generalize hv:x'.ev fr=vx at e hr
 generalize hvi:i'.ev fr=vi at e DT
 cases vi<;>try (cases e;done)
 rename_i k m
 cases m with
 |negSucc m=>cases e
 |ofNat m =>
 dsimp only at e
 generalize hq:Nat.blt m n=q at e
 cases q
 ·cases e
 have hlt:=qp hq
 have hI:=jv DT rfl
 have hrun:∀ b p,A.eval x=.pointer (some ⟨b,p,none⟩)→(execOp A.eval o).run P w=.ok (.value (.pointer (some ⟨b,p+m*sz,none⟩))) w:=by
  intro b p hX
  simp only [execOp,ho,Instr.indexAt,hX,hI,asIntOf]
  rw [aA,aA,Sem.run_pure]
  simp only [Result.andThen]
  simp only [aA,run_underlying hu,Result.andThen,Instr.sureAddr,Sem.run_pure]
  have h0:(0:Int)≤Int.ofNat m∧Int.ofNat m<(n:Int):=⟨Int.natCast_nonneg m,by simpa using hlt⟩
  simp only [if_pos h0,aA,iV hs,Result.andThen,Sem.run_pure]
  have:(Int.ofNat m).toNat=m:=rfl
  rw [this,lK]
 dsimp only [cond_true] at e
 cases vx with
 |bf u p =>
  simp only [OR.ok.injEq] at e;obtain ⟨rfl,rfl,rfl⟩:=e
  obtain ⟨b,hb,hX⟩:=hr
  exact .pure h (hrun b p hX) ⟨b,hb,rfl⟩
 |dF u p =>
  simp only [OR.ok.injEq] at e;obtain ⟨rfl,rfl,rfl⟩:=e
  generalize hq2:A.eval x=q at hr
  cases hr with
  |dF _ aIX=>exact .pure h (hrun _ p hq2) (.dP (.dF _ aIX))
 |_=>cases e
end
section
variable {P:Program} {comp:FuncId→Code→aH} {g g':G} {σ σ':H} {w w':World} {β:Nat→Option Nat} {lo lo':Lo} {fr:List V} {A:Act}
theorem LU {d:Nat} {o:Oper} {x i:Operand} {x' i':aF} {t el:TypeId} {sz:Nat} (hu:P.underlying t=some (.slice el)) (hs:kM P el=some sz) (hx:bQ x=some x') (hi:bQ i=some i') (ho:o.op=.indexAddr t x i) :
  Sound P comp d (.aV sz x' i') o:=by
 intro g β σ lo fr A w v lo' σ' h e
 have hr:=Rs.ev h.f hx
 have DT:=Rs.ev h.f hi
 simp only [aZ,aP] at e
 generalize hv:x'.ev fr=vx at e hr
 generalize hvi:i'.ev fr=vi at e DT
 cases vi<;>try (cases e;done)
 rename_i k m
 cases m with
 |negSucc m=>cases e
 |ofNat m =>
 have hI:=jv DT rfl
 have hrun:∀ b p len c,A.eval x=.slice (some ⟨b,p,none⟩) len c→m<len→(execOp A.eval o).run P w=.ok (.value (.pointer (some ⟨b,p+m*sz,none⟩))) w:=by
  intro b p len c hX hlt
  simp only [execOp,ho,Instr.indexAt,hX,hI,asIntOf]
  rw [aA,aA,Sem.run_pure]
  simp only [Result.andThen]
  simp only [aA,run_underlying hu,Result.andThen,Sem.run_pure]
  have h0:(0:Int)≤Int.ofNat m∧Int.ofNat m<(len:Int):=⟨Int.natCast_nonneg m,by simpa using hlt⟩
  simp only [if_pos h0,aA,iV hs,Result.andThen,Sem.run_pure]
  have:(Int.ofNat m).toNat=m:=rfl
  rw [this,lK]
 cases vx with
 |list xs ex =>
  dsimp only at e
  rw [JE] at e
  cases hg:xs[m]? with
  |none=>rw [hg] at e;cases e
  |some z =>
   rw [hg] at e
   dsimp only at e
   generalize hq:Nat.beq z.cells.length sz=q at e
   cases q
   ·cases e
   simp only [cond_true,OR.ok.injEq] at e
   obtain ⟨rfl,rfl,rfl⟩:=e
   have hz:=aJ hq
   generalize hX:A.eval x=X at hr
   cases hr with
   |list k' vs hk hc he _ h1 h2 =>
    have hk':k'=sz:=by rw [←hk z (List.mem_of_getElem? hg)];exact hz
    subst hk'
    exact .pure h (hrun _ _ _ _ hX (iW.1 hg).1) (.dP (.gX (fun j=>vs m j) (fun j c hc'=>h1 m z j c hg hc') (fun j c hc'=>h2 m z j c hg hc')))
 |hsl id off len cap s =>
  dsimp only at e
  generalize hq:Nat.blt m len=q at e
  cases q
  ·cases e
  simp only [cond_true,OR.ok.injEq] at e
  obtain ⟨rfl,rfl,rfl⟩:=e
  generalize hX:A.eval x=X at hr
  cases hr with
  |hsl hr1 hl hc hn=>exact .pure h (hrun _ _ _ _ hX (qp hq)) (.dP (.dF _ hr1))
 |_=>cases e
theorem ZA {ag:Bool} {oc:Option (List V)} {v:V} (h:mk ag oc=some v):∃ cs,oc=some cs∧((ag=true∧v=.agg cs)∨(ag=false∧cs=[v])):=by
 cases oc with
 |none=>simp [mk] at h
 |some cs =>
  refine ⟨cs,rfl,?_⟩
  cases ag
  ·simp only [mk,cond_false] at h
   split at h
   ·simp at h;subst h;exact .inr ⟨rfl,rfl⟩
   ·cases h
  ·simp [mk] at h;exact .inl ⟨rfl,h.symm⟩
theorem ZV {t:TypeId} {ag:Bool} {sz off:Nat} (ha:Fj P t=some ag) (hs:kM P t=some sz) {cs:List V} {C:Array Value} (hr:kK g cs C.toList) {v:V} (e:mk ag (takeN sz (skip off cs))=some v) :
  ∃ x,(part t C off).run P w=.ok x w∧Rv g v x:=by
 obtain ⟨r,hr1,hv⟩:=ZA e
 obtain ⟨hlen,rfl⟩:=mX hr1
 rw [rV] at hlen hv
 rcases hv with ⟨rfl,rfl⟩|⟨rfl,hv⟩
 ·refine ⟨.agg (C.extract off (off+sz)),?_,.JJ ⟨?_,fun j c z hc hz=>?_⟩⟩
  ·simp only [part,aA,uO ha,iV hs,Result.andThen,if_true,Sem.run_pure]
  ·have:=hr.1
   simp at this hlen ⊢;omega
  ·simp [List.getElem?_take,List.getElem?_drop] at hc
   have hz':C.toList[off+j]?=some z:=by
    simp [List.getElem?_take,List.getElem?_drop] at hz
    simpa using hz.2
   exact hr.2 _ _ _ hc.2 hz'
 ·have hg:cs[off]?=some v:=by
   have:(List.take sz (List.drop off cs))[0]?=some v:=by rw [hv];rfl
   simp [List.getElem?_take] at this
   exact this.2
  obtain ⟨z,hz,yK⟩:=hr.get hg
  refine ⟨z,?_,yK⟩
  have hz':C[off]?=some z:=by simpa using hz
  simp only [part,aA,uO ha,Result.andThen,hz']
  rfl
theorem UQ {d:Nat} {o:Oper} {x:Operand} {y:aF} {t:TypeId} {i off sz:Nat} {ag:Bool} (hf:Fp P t i=some (off,ag,sz)) (hx:bQ x=some y) (ho:o.op=.field t x i):Sound P comp d (.field ag off sz y) o:=by
 obtain ⟨fs,f,hu,hfi,hoff,ha,hs⟩:=Gu hf
 intro g β σ lo fr A w v lo' σ' h e
 have hr:=Rs.ev h.f hx
 simp only [aZ,bU] at e
 generalize hv:y.ev fr=vx at e hr
 cases vx<;>try (cases e;done)
 rename_i cs
 obtain ⟨e1,rfl,rfl⟩:=yR e
 obtain ⟨C,hC,hCs⟩:=Rv.Ic (g:=g) hr
 obtain ⟨z,hz,yK⟩:=ZV (P:=P) (w:=w) ha hs hCs e1
 refine .pure h (x:=z) ?_ (.dP yK)
 simp only [execOp,ho,Instr.field,hC]
 simp only [aA,run_underlying hu,Result.andThen,hfi,asAgg,Sem.run_pure,hoff,hz]
theorem Qb {d:Nat} {o:Oper} {x i:Operand} {x' i':aF} {t el:TypeId} {n sz:Nat} {ag:Bool} (hu:P.underlying t=some (.array n el)) (ha:Fj P el=some ag) (hs:kM P el=some sz) (hx:bQ x=some x') (hi:bQ i=some i') (ho:o.op=.index t x i) :
  Sound P comp d (.oM ag sz n x' i') o:=by
 intro g β σ lo fr A w v lo' σ' h e
 have hr:=Rs.ev h.f hx
 have DT:=Rs.ev h.f hi
 simp only [aZ,kR] at e
 generalize hv:x'.ev fr=vx at e hr
 generalize hvi:i'.ev fr=vi at e DT
 cases vx<;>try (cases e;done)
 rename_i cs
 cases vi<;>try (cases e;done)
 rename_i k m
 cases m with
 |negSucc m=>cases e
 |ofNat m =>
 dsimp only at e
 generalize hq:Nat.blt m n=q at e
 cases q
 ·cases e
 have hI:=jv DT rfl
 obtain ⟨e1,rfl,rfl⟩:=yR e
 obtain ⟨C,hC,hCs⟩:=Rv.Ic (g:=g) hr
 obtain ⟨z,hz,yK⟩:=ZV (P:=P) (w:=w) ha hs hCs e1
 refine .pure h (x:=z) ?_ (.dP yK)
 have h0:(0:Int)≤Int.ofNat m∧Int.ofNat m<(n:Int):=⟨Int.natCast_nonneg m,by simpa using qp hq⟩
 simp only [execOp,ho,Instr.index,hC,hI,asIntOf]
 simp only [aA,Sem.run_pure,Result.andThen,run_underlying hu,if_pos h0,iV hs]
 have:(Int.ofNat m).toNat=m:=rfl
 rw [this,hz]
theorem EN {d:Nat} {o:Oper} {x y:Operand} {x' y':aF} {b:Bool} {ats:Array TypeId} (hx:bQ x=some x') (hy:bQ y=some y') (ho:o.op=.call { callee:=.builtin (if b then .max else .min),args:=#[x,y],argTypes:=ats }) :
  Sound P comp d (if b then .max x' y' else .min x' y') o:=by
 intro g β σ lo fr A w v lo' σ' h e
 have hr:=Rs.ev h.f hx
 have DT:=Rs.ev h.f hy
 cases b
 ·simp only [aZ,vP,Bool.false_eq_true,if_false] at e
  generalize hv:x'.ev fr=vx at e hr
  generalize hvi:y'.ev fr=vy at e DT
  cases vx<;>try (cases e;done)
  rename_i k a
  cases vy<;>try (cases e;done)
  rename_i k' c
  simp only [OR.ok.injEq] at e
  obtain ⟨rfl,rfl,rfl⟩:=e
  have h1:=jv hr rfl
  have h2:=jv DT rfl
  refine .pure h (x:=.int k (if c<a then c else a)) ?_ ?_
  ·simp [execOp,ho,h1,h2,resolve,invoke,builtin,Builtin.min_,Builtin.min2,Result.andThen]
  ·rw [sO];by_cases hq:c<a<;>simp [hq]<;>exact .dP (.int _ _)
 ·simp only [aZ,vO,if_true] at e
  generalize hv:x'.ev fr=vx at e hr
  generalize hvi:y'.ev fr=vy at e DT
  cases vx<;>try (cases e;done)
  rename_i k a
  cases vy<;>try (cases e;done)
  rename_i k' c
  simp only [OR.ok.injEq] at e
  obtain ⟨rfl,rfl,rfl⟩:=e
  have h1:=jv hr rfl
  have h2:=jv DT rfl
  refine .pure h (x:=.int k (if c > a then c else a)) ?_ ?_
  ·simp [execOp,ho,h1,h2,resolve,invoke,builtin,Builtin.max_,Builtin.max2,Result.andThen]
  ·rw [sO];by_cases hq:a<c<;>simp [hq]<;>exact .dP (.int _ _)
end
section
variable {P:Program} {comp:FuncId→Code→aH} {g g':G} {σ σ':H} {w w':World} {β:Nat→Option Nat} {lo lo':Lo} {fr:List V} {A:Act}
theorem Qg:∀ {vs cs r:List V},bG cs vs=some r→vs.length≤cs.length∧r=vs++cs.drop vs.length:=by
 intro vs
 induction vs with
 |nil=>intro cs r h;cases cs<;>simp [bG] at h<;>subst h<;>simp
 |cons v vs ih =>
  intro cs r h
  cases cs with
  |nil=>simp [bG] at h
  |cons c cs =>
   simp only [bG] at h
   cases hq:bG cs vs with
   |none=>simp [hq] at h
   |some q=>simp [hq] at h;subst h;obtain ⟨h1,h2⟩:=ih hq;subst h2;simp;omega
theorem Hf:∀ {n:Nat} {cs vs r:List V},splice n cs vs=some r→n+vs.length≤cs.length∧r=cs.take n++vs++cs.drop (n+vs.length):=by
 intro n
 induction n with
 |zero=>intro cs vs r h;simp only [splice] at h;obtain ⟨h1,h2⟩:=Qg h;exact ⟨by omega,by simpa using h2⟩
 |succ n ih =>
  intro cs vs r h
  cases cs with
  |nil=>simp [splice] at h
  |cons c cs =>
   simp only [splice] at h
   cases hq:splice n cs vs with
   |none=>simp [hq] at h
   |some q=>simp [hq] at h;subst h;obtain ⟨h1,h2⟩:=ih hq;subst h2;simp [Nat.add_right_comm n 1];omega
theorem kK.splice {cs vs r:List V} {C W:List Value} {n:Nat} (hc:kK g cs C) (hv:kK g vs W) (h:splice n cs vs=some r):n+W.length≤C.length∧kK g r (C.take n++W++C.drop (n+W.length)):=by
 obtain ⟨h1,rfl⟩:=Hf h
 refine ⟨by rw [←hc.1,←hv.1];exact h1,?_⟩
 have ht:kK g (cs.take n) (C.take n):=⟨by simp [hc.1],fun i v w a b=>by
  simp [List.getElem?_take] at a b;exact hc.2 i v w a.2 b.2⟩
 have hd:kK g (cs.drop (n+vs.length)) (C.drop (n+W.length)):=⟨by simp [hc.1,hv.1],fun i v w a b=>by
  simp [List.getElem?_drop] at a b;rw [hv.1] at a;exact hc.2 _ v w a b⟩
 exact (ht.append hv).append hd
theorem LZ {α:Type} (l:List α) (i:Nat) (v:α) (h:i<l.length):(l.set i v).take (i+1)=l.take i++[v]:=by
 rw [List.take_succ_eq_append_getElem (by simpa using h)]
 congr 1
 ·apply List.ext_getElem?
  intro j
  simp only [List.getElem?_take,List.getElem?_set]
  by_cases h1:j<i
  ·have:¬i=j:=by omega
   simp [h1,this]
  ·simp [h1]
 ·simp
theorem QI {α:Type} (l:List α) (i n:Nat) (v:α) (h:i<n):(l.set i v).drop n=l.drop n:=by
 apply List.ext_getElem?
 intro j
 simp only [List.getElem?_drop,List.getElem?_set]
 have:¬i=n+j:=by omega
 simp [this]
theorem foldl_set (off:Nat):∀ (vs:List Value) (k:Nat) (C:Array Value),off+k+vs.length≤C.size →
  ((vs.zipIdx k).foldl (fun cs (c,j)=>cs.setIfInBounds (off+j) c) C).toList=C.toList.take (off+k)++vs++C.toList.drop (off+k+vs.length):=by
 intro vs
 induction vs with
 |nil=>intro k C h;simp
 |cons v vs ih =>
  intro k C h
  simp only [List.length_cons] at h
  simp only [List.zipIdx_cons,List.foldl_cons]
  rw [ih (k+1) _ (by simp;omega)]
  simp only [Array.toList_setIfInBounds]
  rw [show off+(k+1)=off+k+1 by omega,LZ _ _ _ (by simp;omega),QI _ _ _ _ (by omega)]
  have:off+k+1+vs.length=off+k+(vs.length+1):=by omega
  rw [this]
  simp only [List.append_assoc,List.cons_append,List.nil_append,List.length_cons]
theorem OG (hf:wL g β fr A.tmps) (place:Nat→Option (Nat×Nat)):∀ (ps:List (Nat×Nat×aF)) (qs:List (Nat×Operand)) (cs cs':List V) (C:Array Value),
  (ps.length=qs.length∧∀ (j:Nat) p q,ps[j]?=some p→qs[j]?=some q→place q.1=some (p.1,p.2.1)∧bQ q.2=some p.2.2)→kK g cs C.toList→fill cs ps fr=some cs' →
  ∃ C',Instr.fill place C (qs.map fun q=>(q.1,A.eval q.2))=some C'∧kK g cs' C'.toList:=by
 intro ps
 induction ps with
 |nil =>
  intro qs cs cs' C hq hr e
  cases qs with
  |cons q qs=>simp at hq
  |nil=>simp [fill] at e;subst e;exact ⟨C,rfl,hr⟩
 |cons p ps ih =>
  intro qs cs cs' C hq hr e
  cases qs with
  |nil=>simp at hq
  |cons q qs =>
   obtain ⟨off,sz,x⟩:=p
   obtain ⟨hp,hx⟩:=hq.2 0 _ _ rfl rfl
   have hrx:=Rs.ev hf hx
   have hrest:ps.length=qs.length∧∀ (j:Nat) p q,ps[j]?=some p→qs[j]?=some q→place q.1=some (p.1,p.2.1)∧bQ q.2=some p.2.2 :=
    ⟨by simpa using hq.1,fun j p q a b=>hq.2 (j+1) p q (by simpa using a) (by simpa using b)⟩
   simp only [fill] at e
   generalize hv:x.ev fr=vx at e hrx
   have fin:∀ v,v≠.undef→Rv g v (A.eval q.2)→(bif Nat.beq v.cells.length sz then (match splice off cs v.cells with|some cs=>fill cs ps fr|none=>none) else none)=some cs' →
     ∃ C',Instr.fill place C ((q::qs).map fun q=>(q.1,A.eval q.2))=some C'∧kK g cs' C'.toList:=by
    intro v hu Lc e
    generalize hb:Nat.beq v.cells.length sz=b at e
    cases b
    ·cases e
    simp only [cond_true] at e
    have hsz:=aJ hb
    cases hs:splice off cs v.cells with
    |none=>rw [hs] at e;cases e
    |some r =>
     rw [hs] at e
     dsimp only at e
     have hcells:=Lc.cells hu
     obtain ⟨hlen,hrr⟩:=kK.splice hr hcells hs
     have hl:(A.eval q.2).cells.size=sz:=by rw [←hsz,hcells.1];simp
     have hfold:=foldl_set off (A.eval q.2).cells.toList 0 C (by simpa using hlen)
     have aye:((A.eval q.2).cells.zipIdx.foldl (fun cs (c,j)=>cs.setIfInBounds (off+j) c) C).toList=C.toList.take off++(A.eval q.2).cells.toList++C.toList.drop (off+(A.eval q.2).cells.toList.length):=by
      rw [←Array.foldl_toList,Array.toList_zipIdx]
      simpa using hfold
     obtain ⟨C',h1,h2⟩:=ih qs r cs' ((A.eval q.2).cells.zipIdx.foldl (fun cs (c,j)=>cs.setIfInBounds (off+j) c) C) hrest (by rw [aye];exact hrr) e
     refine ⟨C',?_,h2⟩
     simp only [List.map_cons,Instr.fill,hp]
     rw [if_neg]
     ·exact h1
     ·simp only [hl,ne_eq,not_true_eq_false,decide_false,Bool.false_or,decide_eq_true_eq]
      have:off+(A.eval q.2).cells.size≤C.size:=by simpa using hlen
      omega
   cases vx with
   |bf _ _=>cases e
   |undef=>cases e
   |_=>exact fin _ (by simp) hrx e
end
section
variable {P:Program} {comp:FuncId→Code→aH} {g g':G} {σ σ':H} {w w':World} {β:Nat→Option Nat} {lo lo':Lo} {fr:List V} {A:Act}
theorem mapM_some {α γ:Type} (f:α→Option γ):∀ {l:List α} {r:List γ},l.mapM f=some r→r.length=l.length∧∀ (j:Nat) a b,l[j]?=some a→r[j]?=some b→f a=some b:=by
 intro l
 induction l with
 |nil=>intro r h;simp at h;subst h;exact ⟨rfl,fun j a b h=>by simp at h⟩
 |cons x xs ih =>
  intro r h
  simp only [List.mapM_cons,iJ,Option.pure_def] at h
  cases hx:f x with
  |none=>simp [hx] at h
  |some y =>
   cases hxs:xs.mapM f with
   |none=>simp [hx,hxs] at h
   |some ys =>
    simp [hx,hxs] at h
    subst h
    obtain ⟨h1,h2⟩:=ih hxs
    refine ⟨by simp [h1],fun j a b ha hb=>?_⟩
    cases j with
    |zero=>simp at ha hb;subst ha hb;exact hx
    |succ j=>simp at ha hb;exact h2 j a b ha hb
theorem IZ {t:TypeId} {z:V} (h:mg P t=some z):∃ it Z,P.info? t=some it∧it.zero=some Z∧z=cV 5 Z∧z≠.undef:=by
 unfold mg at h
 cases hi:P.info? t with
 |none=>simp [hi] at h
 |some it =>
  cases hz:it.zero with
  |none=>simp [hi,hz] at h
  |some Z =>
   simp only [hi,hz,iJ,Option.bind_some] at h
   refine ⟨it,Z,rfl,hz,?_,?_⟩
   ·split at h
    ·cases h
    ·simpa using h.symm
   ·split at h
    ·cases h
    ·rename_i hn
     simp at h;subst h;exact hn
theorem kY {t:TypeId} {z:V} (h:mg P t=some z):∃ it Z,P.info? t=some it∧it.zero=some Z∧kK g z.cells Z.cells.toList:=by
 obtain ⟨it,Z,h1,h2,rfl,h3⟩:=IZ h
 exact ⟨it,Z,h1,h2,(Rv.cV 5 g Z).cells h3⟩
theorem G8 {d:Nat} {o:Oper} {t:TypeId} {ps:Array (Nat×Operand)} {z:V} {vps:List (Nat×Nat×aF)} (hz:mg P t=some z) (ho:o.op=.build t ps)
  (hps:(∃ fs places,P.underlying t=some (.struct fs)∧fs.toList.mapM (fun f=>(P.info? f.type).map fun i=>(f.offset,i.size))=some places ∧
    ps.toList.mapM (fun (q:Nat×Operand)=>do let p ←places[q.1]?;let x ←bQ q.2;pure (p.1,p.2,x))=some vps) ∨
   (∃ n e s,P.underlying t=some (.array n e)∧kM P e=some s∧ps.toList.mapM (fun (q:Nat×Operand)=>do let x ←bQ q.2;pure (q.1*s,s,x))=some vps)) :
  Sound P comp d (.build z.cells vps) o:=by
 intro g β σ lo fr A w v lo' σ' h e
 obtain ⟨it,Z,hit,hZ,hzc⟩:=kY (g:=g) hz
 simp only [aZ,dB] at e
 split at e<;>try cases e
 rename_i cs hcs
 have key:∃ C,P.built t (ps.toList.map fun q=>(q.1,A.eval q.2))=some C∧kK g cs C.toList:=by
  rcases hps with ⟨fs,places,hu,hpl,aeX⟩|⟨n,el,s,hu,hs,aeX⟩
  ·obtain ⟨hl,hall⟩:=mapM_some _ aeX
   obtain ⟨C,h1,h2⟩:=OG h.f (places.toArray[·]?) vps ps.toList z.cells cs Z.cells ⟨hl,fun j p q hp hq=>by
    have:=hall j q p hq hp
    cases hpl':places[q.1]? with
    |none=>simp [hpl'] at this
    |some pp =>
     cases hx:bQ q.2 with
     |none=>simp [hpl',hx] at this
     |some x=>simp [hpl',hx] at this;subst this;exact ⟨by simpa using hpl',rfl⟩⟩ hzc hcs
   exact ⟨C,by simp only [Program.built,hit,hu,hZ,hpl];exact h1,h2⟩
  ·obtain ⟨hl,hall⟩:=mapM_some _ aeX
   unfold kM at hs
   cases hie:P.info? el with
   |none=>simp [hie] at hs
   |some ie =>
    simp [hie] at hs
    obtain ⟨C,h1,h2⟩:=OG h.f (fun i=>some (i*ie.size,ie.size)) vps ps.toList z.cells cs Z.cells ⟨hl,fun j p q hp hq=>by
     have:=hall j q p hq hp
     cases hx:bQ q.2 with
     |none=>simp [hx] at this
     |some x=>simp [hx] at this;subst this;exact ⟨by simp [hs],rfl⟩⟩ hzc hcs
    exact ⟨C,by simp only [Program.built,hit,hu,hZ,hie];exact h1,h2⟩
 obtain ⟨C,hC,hCr⟩:=key
 refine .pure h (x:=.agg C) ?_ (.dP (.JJ hCr))
 have hpe:(ps.map fun (i,x)=>(i,A.eval x)).toList=ps.toList.map fun q=>(q.1,A.eval q.2):=by simp
 simp only [execOp,ho,aA,run_build w t _ C (by rw [hpe];exact hC),Result.andThen]
 rfl
end
section
variable {P:Program} {comp:FuncId→Code→aH} {g g':G} {σ σ':H} {w w':World} {β:Nat→Option Nat} {lo lo':Lo} {fr:List V} {A:Act}
theorem Ov (x:List V):(elemOf x).cells=x:=by
 unfold elemOf
 split
 ·rename_i c
  cases c<;>rfl
 ·rfl
theorem Ja {sz:Nat}:∀ {n:Nat} {cs xs:List V},chunk sz n cs=some xs→xs.length=n∧n*sz≤cs.length∧∀ (i:Nat) x,xs[i]?=some x→x.cells=(cs.drop (i*sz)).take sz:=by
 intro n
 induction n with
 |zero=>intro cs xs h;simp [chunk] at h;subst h;exact ⟨rfl,by simp,fun i x hx=>by simp at hx⟩
 |succ n ih =>
  intro cs xs h
  simp only [chunk] at h
  cases ht:takeN sz cs with
  |none=>simp [ht] at h
  |some t =>
   cases hc:chunk sz n (skip sz cs) with
   |none=>simp [ht,hc] at h
   |some r =>
    simp [ht,hc] at h
    subst h
    obtain ⟨h1,rfl⟩:=mX ht
    rw [rV] at hc
    obtain ⟨h2,h3,h4⟩:=ih hc
    refine ⟨by simp [h2],?_,fun i x hx=>?_⟩
    ·simp at h3;rw [Nat.succ_mul];omega
    ·cases i with
     |zero=>simp at hx;subst hx;rw [Ov];simp
     |succ i =>
      simp at hx
      rw [h4 i x hx,List.drop_drop]
      congr 2
      rw [Nat.succ_mul];omega
theorem Rv.aou {b off n cap sz:Nat} {C:Array Value} {cs xs:List V} {ex:Bool} (hφ:∀ o,g.φ b o=C[o]?) (hc:∀ (j:Nat) c,cs[j]?=some c→∃ x,C[off+j]?=some x∧Rv g c x) (hx:chunk sz n cs=some xs) (hn:n≤cap) (he:ex=true→cap=n) (hp:¬g.pin b) :
  Rv g (.list xs ex) (.slice (some ⟨b,off,none⟩) n cap):=by
 obtain ⟨hl,hlen,hcells⟩:=Ja hx
 subst hl
 have hk:∀ x∈xs,x.cells.length=sz:=by
  intro x hx'
  obtain ⟨i,hi⟩:=List.mem_iff_getElem?.1 hx'
  rw [hcells i x hi]
  have hi':=(iW.1 hi).1
  have:(i+1)*sz≤xs.length*sz:=Nat.mul_le_mul_right _ hi'
  rw [Nat.succ_mul] at this
  simp;omega
 have hval:∀ (i:Nat) x (j:Nat) c,xs[i]?=some x→x.cells[j]?=some c→∃ z,C[off+i*sz+j]?=some z∧Rv g c z:=by
  intro i x j c hx' hj
  rw [hcells i x hx'] at hj
  simp [List.getElem?_take,List.getElem?_drop] at hj
  obtain ⟨z,hz,yK⟩:=hc _ _ hj.2
  exact ⟨z,by rw [Nat.add_assoc];exact hz,yK⟩
 refine .list sz (fun i j=>(C[off+i*sz+j]?).getD Go.undef) hk hn he (fun _ _ _=>hp) (fun i x j c hx' hj=>?_) (fun i x j c hx' hj=>?_)
 ·obtain ⟨z,hz,_⟩:=hval i x j c hx' hj
  rw [hφ,hz];rfl
 ·obtain ⟨z,hz,yK⟩:=hval i x j c hx' hj
  rw [hz];exact yK
theorem Frm.alloc (B:Nat→Prop) (ob:Go.Obj):Frm g σ B w (w.alloc ob) :=
 ⟨rfl,rfl,rfl,by simp,fun k hk _ _ _=>Below.heap_alloc w ob k hk⟩
theorem Rb.same (h:Rb g σ β lo w) (hg:g.le g') (hl:∀ b,Live g' σ' b→b<w.heap.size→Live g σ b) (hp:∀ b,b<w.heap.size→(∀ o,g.φ b o=none)→¬Live g σ b→∀ o,g'.φ b o=none)
  (hb:∀ t b,β t=some b→w'.heap[b]?=w.heap[b]?):Rb g' σ' β lo w' where
 boxes t b e:=by
  obtain ⟨cs,c,ty,h1,h2,h3,h4⟩:=h.boxes t b e
  exact ⟨cs,c,ty,h1,(hb t b e).trans h2,h3,fun j x hx=>let ⟨v,a,r⟩:=h4 j x hx;⟨v,a,r.mono hg⟩⟩
 apart t b e:=by
  obtain ⟨h1,h2⟩:=h.apart t b e
  obtain ⟨cs,c,ty,_,h5,_⟩:=h.boxes t b e
  have hlt:=(fG.1 h5).1
  exact ⟨fun hl'=>h1 (hl b hl' hlt),hp b hlt h2 h1⟩
 inj:=h.inj
theorem Live.freeze {b:Nat} {c:Array Value} {k:Nat} (h:Live (g.freeze b c) σ k):Live g σ k:=h
theorem nU.frozen (h:St P comp g β σ lo fr A w) {v:V} {x:Value} {r:Result Next} {c:Array Value} {e:TypeId} {fz:Nat×Nat} {w':World} (hw':w'.heap=(w.alloc (.cells c e fz)).heap∧w'.os=w.os∧w'.tape=w.tape∧w'.output=w.output)
  (hr:r=.ok (.value x) w') (hv:Rv (g.freeze w.heap.size c) v x):nU P comp g β σ w v lo σ r:=by
 obtain ⟨hle,hrw⟩:=h.w.acj c e fz
 have hsz:w'.heap.size=w.heap.size+1:=by rw [hw'.1];simp
 have hbl:∀ k,k<w.heap.size→w'.heap[k]?=w.heap[k]?:=fun k hk=>by rw [hw'.1];exact Below.heap_alloc w _ k hk
 refine ⟨x,w',_,.inl hr,hle,.dP hv,hrw.same (by rw [hw'.1];exact bC _) (fun k _=>by rw [hw'.1]),h.b.same hle (fun b hl _=>hl) (fun b hb hp _ o=>?_) (fun t b e=>?_),⟨hw'.2.1,hw'.2.2.1,hw'.2.2.2,by omega,fun k hk _ _ _=>hbl k hk⟩,fun b hl _=>hl,fun b hb hp _ o=>by rw [G.jJ _ _ (by omega)];exact hp o⟩
 ·rw [G.jJ _ _ (by omega)];exact hp o
 ·obtain ⟨cs,c,ty,_,h5,_⟩:=h.b.boxes t b e
  exact hbl b (fG.1 h5).1
theorem ape (z:List V):∀ (n i:Nat),i<n*z.length→(rep z n)[i]?=z[i%z.length]?:=by
 intro n
 induction n with
 |zero=>intro i h;simp at h
 |succ n ih =>
  intro i h
  simp only [rep,List.getElem?_append]
  by_cases hi:i<z.length
  ·rw [if_pos hi,Nat.mod_eq_of_lt hi]
  ·rw [if_neg hi,ih _ (by have:=Nat.succ_mul n z.length;simp only [Nat.succ_eq_add_one] at this;omega)]
   congr 1
   exact (Nat.mod_eq_sub_mod (by omega)).symm
theorem Dy (z:List V):∀ n,(rep z n).length=n*z.length:=by
 intro n
 induction n with
 |zero=>simp [rep]
 |succ n ih=>simp [rep,ih,Nat.succ_mul];omega
theorem P5 {z:List V} {Z:Array Value} (hz:kK g z Z.toList) (n:Nat):kK g (rep z n) ((Array.range (n*Z.size)).map (Z[·%Z.size]!)).toList:=by
 have hl:z.length=Z.size:=by simpa using hz.1
 refine ⟨by rw [Dy];simp [hl],fun i v x hv hx=>?_⟩
 have hi:i<n*z.length:=by rw [←Dy];exact (iW.1 hv).1
 rw [ape z n i hi] at hv
 have hpos:0<z.length:=by
  rcases Nat.eq_zero_or_pos z.length with h0|h0
  ·rw [h0] at hi;simp at hi
  ·exact h0
 have hm:i%z.length<z.length:=Nat.mod_lt _ hpos
 have hi':i<n*Z.size:=by rw [←hl];exact hi
 have hm':i%Z.size<Z.size:=by rw [←hl];exact hm
 have hx':x=Z[i%Z.size]!:=by
  simp [hi'] at hx
  exact hx.symm
 refine hz.2 (i%z.length) v x hv ?_
 rw [hx',hl]
 simp [hm']
end
section
variable {P:Program} {comp:FuncId→Code→aH} {g g':G} {σ σ':H} {w w':World} {β:Nat→Option Nat} {lo lo':Lo} {fr:List V} {A:Act}
theorem ac6 {d:Nat} {o:Oper} {t el:TypeId} {n s:Nat} {ps:Array (Nat×Operand)} {z:V} {vps:List (Nat×Nat×aF)} (hu:P.underlying t=some (.slice el)) (hs:kM P el=some s) (hz:mg P el=some z) (ho:o.op=.buildSlice t n ps)
  (aeX:ps.toList.mapM (fun (q:Nat×Operand)=>do let x ←bQ q.2;pure (q.1*s,s,x))=some vps) (hlim:n*s≤2 ^ 20) (hs0:s≠0) (hzl:z.cells.length=s):Sound P comp d (.lit z.cells s n vps) o:=by
 intro g β σ lo fr A w v lo' σ' h e
 obtain ⟨it,Z,hit,hZ,hzc⟩:=kY (g:=g) hz
 have hZs:Z.cells.size=s:=by have:=hzc.1;simp at this;omega
 simp only [aZ,fO] at e
 split at e<;>try cases e
 rename_i cs hcs
 split at e<;>try cases e
 rename_i xs hxs
 obtain ⟨hl,hall⟩:=mapM_some _ aeX
 obtain ⟨C,h1,h2⟩:=OG h.f (fun i=>some (i*s,s)) vps ps.toList _ cs _ ⟨hl,fun j p q hp hq=>by
  have:=hall j q p hq hp
  cases hx:bQ q.2 with
  |none=>simp [hx] at this
  |some x=>simp [hx] at this;subst this;exact ⟨rfl,rfl⟩⟩ (P5 hzc n) hcs
 rw [hZs] at h1
 refine nU.frozen h (c:=C) (e:=el) (fz:=(0,0)) (w':=w.alloc (.cells C el (0,0))) (x:=.slice (some ⟨w.heap.size,0,none⟩) n n) ⟨rfl,rfl,rfl,rfl⟩ ?_ ?_
 ·have hpe:(ps.map fun (i,x)=>(i,A.eval x)).toList=ps.toList.map fun q=>(q.1,A.eval q.2):=by simp
  have hnot:¬(n*s > 2 ^ 24):=by omega
  have hzero:(zeroValue el).run P w=.ok Z w:=by simp [zeroValue,typeInfo,program,Sem.run,hit,hZ,Result.andThen]
  simp only [execOp,ho,Instr.buildSlice]
  simp only [aA,run_underlying hu,Result.andThen,iV hs,if_neg hnot,Sem.run_pure]
  by_cases hn0:n*s=0
  ·have hn:n=0:=by rcases Nat.mul_eq_zero.1 hn0 with h0|h0;exact h0;exact absurd h0 hs0
   subst hn
   have h1':Instr.fill (fun i=>some (i*s,s)) #[] (ps.toList.map fun q=>(q.1,A.eval q.2))=some C:=by
    have:(Array.range (0*s)).map (fun x=>Z.cells[x%s]!)=#[]:=by simp
    rw [this] at h1;exact h1
   have e0:∀ zero:Array Value,Array.map (fun x=>zero[x%zero.size]!) (Array.range 0)=#[]:=fun zero=>by simp
   simp only [Nat.zero_mul,if_true,Sem.run_pure,Result.andThen,aA,e0]
   rw [hpe,h1']
   simp only [newRow,aA,run_newObj_alloc,Result.andThen,Sem.run_pure]
  ·simp only [if_neg hn0,aA,hzero,Result.andThen,Sem.run_pure]
   rw [hpe,hZs,h1]
   simp only [newRow,aA,run_newObj_alloc,Result.andThen,Sem.run_pure]
 ·refine Rv.aou (C:=C) (fun o=>G.wu _ _ _ o) (fun j c hj=>?_) hxs (bC _) (fun _=>rfl) (fun h=>h.2 rfl)
  obtain ⟨x,hx,hxr⟩:=(h2.mono (G.BA (g:=g) (b:=w.heap.size) C fun o=>h.w.nC (bC _) o)).get hj
  exact ⟨x,by simpa using hx,hxr⟩
end
section
variable {P:Program} {comp:FuncId→Code→aH} {g g':G} {σ σ':H} {w w':World} {β:Nat→Option Nat} {lo lo':Lo} {fr:List V} {A:Act}
theorem nU.new (h:St P comp g β σ lo fr A w) {v:V} {x:Value} {r:Result Next} {ob:Obj} {gob:Go.Obj} {n:Nat} {w':World} (hw':w'.heap=(w.alloc gob).heap∧w'.os=w.os∧w'.tape=w.tape∧w'.output=w.output)
  (hr:r=.ok (.value x) w') (ho:Ro P comp (g.bind σ.next (w.heap.size,n)) ob w.heap.size n w') (hv:Rv (g.bind σ.next (w.heap.size,n)) v x):nU P comp g β σ w v lo (σ.new ob) r:=by
 have hbl:∀ k,k<w.heap.size→w'.heap[k]?=w.heap[k]?:=fun k hk=>by rw [hw'.1];exact Below.heap_alloc w _ k hk
 have hsz:w'.heap.size=w.heap.size+1:=by rw [hw'.1];simp
 have hw1:Rw P comp g σ w':=h.w.same (by omega) hbl
 have hnl:¬Live g σ w.heap.size:=uz h.w
 have hle:g.le (g.bind σ.next (w.heap.size,n)):=G.uo _ (h.w.fresh _ (bC _)).1
 have hlive:∀ b,Live (g.bind σ.next (w.heap.size,n)) (σ.new ob) b→b<w.heap.size→Live g σ b:=by
  rintro b ⟨i,m,hi,hb⟩ hlt
  by_cases e:i=σ.next
  ·subst e;simp at hb;omega
  ·rw [G.kL _ e] at hb
   rw [H.qw] at hi
   simp [Ne.symm e] at hi
   exact ⟨i,m,hi,hb⟩
 refine ⟨x,w',_,.inl hr,hle,.dP hv,hw1.add hnl (fun o=>h.w.nC (bC _) o) ho,h.b.same hle hlive (fun b _ hp _ o=>hp o) (fun t b e=>?_),⟨hw'.2.1,hw'.2.2.1,hw'.2.2.2,by omega,fun k hk _ _ _=>hbl k hk⟩,hlive,fun b _ hp _ o=>hp o⟩
 obtain ⟨cs,c,ty,_,h5,_⟩:=h.b.boxes t b e
 exact hbl b (fG.1 h5).1
theorem yx {cs:List V} {C:Array Value} {e:TypeId} (hw':w'.heap=(w.alloc (.cells C e (0,0))).heap) (hc:kK g cs C.toList):Ro P comp g (.cells cs) w.heap.size C.size w' :=
 ⟨C,e,by rw [hw'];exact World.alloc_heap_new w _,rfl,by have:=hc.1;simp at this;omega,fun j x hx=>let ⟨z,hz,hr⟩:=hc.get hx;⟨z,by simpa using hz,hr⟩⟩
theorem P9 {d:Nat} {o:Oper} {t:TypeId} {z:V} (hz:mg P t=some z) (ho:o.op=.alloc t):Sound P comp d (.bM z.cells) o:=by
 intro g β σ lo fr A w v lo' σ' h e
 simp only [aZ,bI,OR.ok.injEq] at e
 obtain ⟨rfl,rfl,rfl⟩:=e
 obtain ⟨it,Z,hit,hZ,hzc⟩:=kY (g:=g) hz
 have hzero:(zeroValue t).run P w=.ok Z w:=by simp [zeroValue,typeInfo,program,Sem.run,hit,hZ,Result.andThen]
 refine nU.new h (gob:=.cells Z.cells t (0,0)) (n:=Z.cells.size) (w':=w.alloc (.cells Z.cells t (0,0))) (x:=.pointer (some ⟨w.heap.size,0,none⟩)) ⟨rfl,rfl,rfl,rfl⟩ ?_
  (yx rfl (hzc.mono (G.uo _ (h.w.fresh _ (bC _)).1))) (.dF 0 (G.oq _ _ _))
 simp only [execOp,ho,Instr.alloc,aA,hzero,Result.andThen,newVar,newRow,run_newObj_alloc,Sem.run_pure]
theorem YE {d:Nat} {o:Oper} {t:TypeId} {x:Operand} {y:aF} (hx:bQ x=some y) (ho:o.op=.box t x):Sound P comp d (.BR y) o:=by
 intro g β σ lo fr A w v lo' σ' h e
 have hr:=Rs.ev h.f hx
 simp only [aZ,yU] at e
 generalize hv:y.ev fr=vx at e hr
 have fin:vx≠.undef→Rv g vx (A.eval x)→nU P comp g β σ w (.dF σ.next 0) lo (σ.new (.cells vx.cells)) ((execOp A.eval o).run P w):=by
  intro hu Lc
  have hc:=Lc.cells hu
  refine nU.new h (gob:=.cells (A.eval x).cells t (0,0)) (n:=(A.eval x).cells.size) (w':=w.alloc (.cells (A.eval x).cells t (0,0))) (x:=.pointer (some ⟨w.heap.size,0,none⟩)) ⟨rfl,rfl,rfl,rfl⟩ ?_
   (yx rfl (hc.mono (G.uo _ (h.w.fresh _ (bC _)).1))) (.dF 0 (G.oq _ _ _))
  simp only [execOp,ho,Instr.box,aA,Result.andThen,newVar,newRow,run_newObj_alloc,Sem.run_pure]
 cases vx with
 |bf _ _=>cases e
 |undef=>cases e
 |_=>simp only [OR.ok.injEq] at e;obtain ⟨rfl,rfl,rfl⟩:=e;exact fin (by simp) hr
theorem UY {d:Nat} {o:Oper} {t:TypeId} (ho:o.op=.makeMap t none):Sound P comp d .mkMap o:=by
 intro g β σ lo fr A w v lo' σ' h e
 simp only [aZ,EG,OR.ok.injEq] at e
 obtain ⟨rfl,rfl,rfl⟩:=e
 refine nU.new h (gob:=.map #[] 0) (n:=0) (w':=w.alloc (.map #[] 0)) (x:=.map (some w.heap.size)) ⟨rfl,rfl,rfl,rfl⟩ ?_ ?_ (.map (G.oq _ _ _))
 ·simp only [execOp,ho,Instr.makeMap,Option.map_none,aA,run_newObj_alloc,Result.andThen,Sem.run_pure]
 ·exact ⟨#[],World.alloc_heap_new w _,rfl,fun i k x hx=>by simp at hx⟩
theorem kK.evs (hf:wL g β fr A.tmps):∀ {xs:List Operand} {ys:List aF},xs.mapM bQ=some ys→iD (aF.evs ys fr)=false→kK g (aF.evs ys fr) (xs.map A.eval):=by
 intro xs
 induction xs with
 |nil=>intro ys h _;simp at h;subst h;exact .nil g
 |cons x xs ih =>
  intro ys h hl
  simp only [List.mapM_cons,iJ,Option.pure_def] at h
  cases hx:bQ x with
  |none=>simp [hx] at h
  |some y =>
   cases hxs:xs.mapM bQ with
   |none=>simp [hx,hxs] at h
   |some ys' =>
    simp [hx,hxs] at h
    subst h
    have hr:=Rs.ev hf hx
    simp only [aF.evs] at hl ⊢
    generalize hv:y.ev fr=vy at hl hr
    cases vy with
    |bf _ _=>simp [iD] at hl
    |_=>exact .cons hr (ih hxs (by simpa [iD] using hl))
theorem Qe {d:Nat} {o:Oper} {f:FuncId} {a b:Array Operand} {a' b':List aF} (ha:a.toList.mapM bQ=some a') (hb:b.toList.mapM bQ=some b') (ho:o.op=.makeFunc (.func f) a b):Sound P comp d (.bJ (.func f) a' b') o:=by
 intro g β σ lo fr A w v lo' σ' h e
 simp only [aZ,bD] at e
 generalize h1:iD (aF.evs a' fr)=q1 at e
 generalize h2:iD (aF.evs b' fr)=q2 at e
 cases q1
 ·cases q2
  ·simp only [Bool.or_self,cond_false,OR.ok.injEq] at e
   obtain ⟨rfl,rfl,rfl⟩:=e
   have r1:=kK.evs h.f ha h1
   have r2:=kK.evs h.f hb h2
   refine .pure h (x:=.func (.func f) (a.map A.eval) (b.map A.eval)) ?_ (.dP (.func (.func f) (by simpa using r1.1) (by simpa using r2.1) (fun i v w p q=>r1.2 i v w p (by simpa using q)) (fun i v w p q=>r2.2 i v w p (by simpa using q))))
   simp [execOp,ho,Instr.makeFunc]
  ·cases e
 ·cases e
end
section
variable {P:Program} {comp:FuncId→Code→aH} {g g':G} {σ σ':H} {w w':World} {β:Nat→Option Nat} {lo lo':Lo} {fr:List V} {A:Act}
theorem wF (lo:Lo) (t u:Nat) (cs:List V):dQ (dS lo t cs) u=if t=u then some cs else dQ lo u:=by
 induction lo with
 |nil =>
  by_cases h:t=u
  ·subst h;simp [dS,dQ]
  ·simp [dS,dQ,DZ h,h]
 |cons p r ih =>
  obtain ⟨k,ds⟩:=p
  simp only [dS]
  by_cases h:k=t
  ·subst h
   by_cases h2:k=u
   ·subst h2;simp [dQ]
   ·simp [dQ,DZ h2,h2]
  ·rw [DZ h]
   simp only [cond_false,dQ]
   by_cases h2:k=u
   ·subst h2;simp [Ne.symm h]
   ·rw [DZ h2];simp only [cond_false];exact ih
theorem iw (fr:List V) (t:Nat) (v:V):(jW fr t v).length=fr.length:=by
 induction fr generalizing t with
 |nil=>rfl
 |cons x xs ih=>cases t<;>simp [sH,nK,lT,ih]
theorem Ew (fr:List V) (t u:Nat) (v:V):(jW fr t v)[u]?=if t=u∧u<fr.length then some v else fr[u]?:=by
 induction fr generalizing t u with
 |nil=>simp [sH,nK,lT]
 |cons x xs ih =>
  cases t with
  |zero=>cases u<;>simp [sH,nK,lT]
  |succ t =>
   cases u with
   |zero=>simp [sH,nK,lT]
   |succ u=>simp [sH,nK,lT,ih]
theorem O7 (t:Nat) (fr:List V):(dI t fr).length=fr.length:=by
 induction fr with
 |nil=>rfl
 |cons x xs ih=>simp [dI,ih]
theorem abS (t:Nat) (fr:List V) (u:Nat):(dI t fr)[u]?=(fr[u]?).map fun v=>match v with|.bf k o=>if k=t then .undef else .bf k o|v=>v:=by
 induction fr generalizing u with
 |nil=>simp [dI]
 |cons x xs ih =>
  cases u with
  |zero =>
   simp only [dI,List.getElem?_cons_zero,bP,aC]
   cases x<;>try rfl
   rename_i k o
   by_cases h:k=t
   ·subst h;simp
   ·simp [DZ h,h]
  |succ u=>simpa [dI] using ih u
theorem wL.put (h:wL g β fr A.tmps) {t:Nat} {v:V} {x:Value} (hv:Rs g β v x):wL g β (jW fr t v) (A.tmps.setIfInBounds t x) where
 size:=by rw [iw];simpa using h.size
 slots u v' x' hv' hx':=by
  rw [Ew] at hv'
  rw [Array.getElem?_setIfInBounds] at hx'
  by_cases e:t=u
  ·subst e
   by_cases hl:t<fr.length
   ·have hl':t<A.tmps.size:=by rw [←h.size];exact hl
    simp [hl] at hv'
    simp [hl'] at hx'
    subst hv' hx';exact hv
   ·have:fr[t]?=none:=gI (by omega)
    simp [hl,this] at hv'
  ·simp [e] at hv' hx'
   exact h.slots u v' x' hv' hx'
theorem wL.eF (h:wL g β fr A.tmps) {d:Option Nat} {v:V} {x:Value} (hv:Rs g β v x):wL g β (eF fr d v) (A.put d x).tmps:=by
 cases d with
 |none=>exact h
 |some t=>exact h.put hv
theorem wL.mono (h:wL g β fr A.tmps) (hg:g.le g'):wL g' β fr A.tmps:=⟨h.size,fun t v x a b=>(h.slots t v x a b).mono hg⟩
theorem St.JF (h:St P comp g β σ lo fr A w) (d:Nat) {cs:List V} {C:Array Value} (ty:TypeId) (hc:kK g cs C.toList) :
  St P comp g (fun t=>if t=d then some w.heap.size else β t) σ (dS lo d cs) (jW (dI d fr) d (.bf d 0)) (A.put (some d) (.pointer (some ⟨w.heap.size,0,none⟩))) (w.alloc (.cells C ty (0,0))):=by
 have hlt:∀ t b,β t=some b→b<w.heap.size:=fun t b e=>by
  obtain ⟨cs,c,ty,_,h5,_⟩:=h.b.boxes t b e
  exact (fG.1 h5).1
 refine ⟨?_,⟨fun t b e=>?_,fun t b e=>?_,fun t u b e e'=>?_⟩,h.w.alloc _⟩
 ·have hk:wL g (fun t=>if t=d then some w.heap.size else β t) (dI d fr) A.tmps:=by
   refine ⟨by rw [O7];exact h.f.size,fun u v x hv hx=>?_⟩
   rw [abS] at hv
   cases hu:fr[u]? with
   |none=>simp [hu] at hv
   |some v0 =>
    simp [hu] at hv
    have h0:=h.f.slots u v0 x hu hx
    cases v0 with
    |bf k o =>
     by_cases hkd:k=d
     ·simp [hkd] at hv;subst hv;exact .dP (.undef _)
     ·simp [hkd] at hv;subst hv
      obtain ⟨b,hb,hx'⟩:=h0
      exact ⟨b,by simp [hkd,hb],hx'⟩
    |_=>simp at hv;subst hv;exact h0
  exact hk.put ⟨w.heap.size,by simp,rfl⟩
 ·rw [wF]
  by_cases ht:t=d
  ·subst ht
   simp at e
   subst e
   exact ⟨cs,C,ty,by simp,World.alloc_heap_new w _,by simpa using hc.1,fun j x hx=>let ⟨z,hz,hr⟩:=hc.get hx;⟨z,by simpa using hz,hr⟩⟩
  ·simp [ht] at e
   obtain ⟨cs',c,ty',h1,h2,h3,h4⟩:=h.b.boxes t b e
   exact ⟨cs',c,ty',by simp [Ne.symm ht,h1],(Below.heap_alloc w _ b (hlt t b e)).trans h2,h3,h4⟩
 ·by_cases ht:t=d
  ·subst ht;simp at e;subst e
   exact ⟨uz h.w,fun o=>h.w.nC (bC _) o⟩
  ·simp [ht] at e;exact h.b.apart t b e
 ·by_cases ht:t=d
  ·by_cases hu:u=d
   ·exact ht.trans hu.symm
   ·simp [ht] at e;simp [hu] at e';have:=hlt u b e';omega
  ·by_cases hu:u=d
   ·simp [hu] at e';simp [ht] at e;have:=hlt t b e;omega
   ·simp [ht] at e;simp [hu] at e';exact h.b.inj t u b e e'
def Oh (P:Program) (comp:FuncId→Code→aH) (d:Nat) (Cb:l7) (o:Oper):Prop :=
 ∀ (g:G) (β:Nat→Option Nat) (σ:H) (lo:Lo) (fr:List V) (A:Act) (w:World) (v:V) (lo':Lo) (σ':H),St P comp g β σ lo fr A w→aZ d Cb fr lo σ=.ok v lo' σ' →
  ∃ (C:Array Value) (ty:TypeId),(execOp A.eval o).run P w=.ok (.value (.pointer (some ⟨w.heap.size,0,none⟩))) (w.alloc (.cells C ty (0,0)))∧v=.bf d 0∧σ'=σ∧∃ cs,lo'=dS lo d cs∧kK g cs C.toList
theorem UM {d:Nat} {o:Oper} {t:TypeId} {z:V} (hz:mg P t=some z) (ho:o.op=.alloc t):Oh P comp d (.alloc z.cells) o:=by
 intro g β σ lo fr A w v lo' σ' h e
 simp only [aZ,dD,OR.ok.injEq] at e
 obtain ⟨rfl,rfl,rfl⟩:=e
 obtain ⟨it,Z,hit,hZ,hzc⟩:=kY (g:=g) hz
 have hzero:(zeroValue t).run P w=.ok Z w:=by simp [zeroValue,typeInfo,program,Sem.run,hit,hZ,Result.andThen]
 refine ⟨Z.cells,t,?_,rfl,rfl,_,rfl,hzc⟩
 simp only [execOp,ho,Instr.alloc,aA,hzero,Result.andThen,newVar,newRow,run_newObj_alloc,Sem.run_pure]
theorem ac2 {d:Nat} {o:Oper} {t:TypeId} {x:Operand} {y:aF} (hx:bQ x=some y) (ho:o.op=.box t x):Oh P comp d (.yA y) o:=by
 intro g β σ lo fr A w v lo' σ' h e
 have hr:=Rs.ev h.f hx
 simp only [aZ,wV] at e
 generalize hv:y.ev fr=vx at e hr
 have fin:vx≠.undef→Rv g vx (A.eval x)→∃ (C:Array Value) (ty:TypeId),(execOp A.eval o).run P w=.ok (.value (.pointer (some ⟨w.heap.size,0,none⟩))) (w.alloc (.cells C ty (0,0)))∧kK g vx.cells C.toList:=by
  intro hu Lc
  refine ⟨(A.eval x).cells,t,?_,Lc.cells hu⟩
  simp only [execOp,ho,Instr.box,aA,Result.andThen,newVar,newRow,run_newObj_alloc,Sem.run_pure]
 cases vx with
 |bf _ _=>cases e
 |undef=>cases e
 |_ =>
  simp only [OR.ok.injEq] at e;obtain ⟨rfl,rfl,rfl⟩:=e
  obtain ⟨C,ty,h1,h2⟩:=fin (by simp) hr
  exact ⟨C,ty,h1,rfl,rfl,_,rfl,h2⟩
end
section
variable {P:Program} {comp:FuncId→Code→aH} {g g':G} {σ σ':H} {w w':World} {β:Nat→Option Nat} {lo lo':Lo} {fr:List V} {A:Act}
theorem ao2 {v:V} {x:Value} (h:Rv g v x) (ho:yT v=true):x.oneCell'=true:=by
 cases h<;>first|rfl|(simp [yT] at ho;done)
theorem JU {vs:List V} {xs:List Value} (h:kK g vs xs) (ho:dO vs=true):∀ x∈xs,x.oneCell'=true:=by
 induction vs generalizing xs with
 |nil=>rw [h.KW];intro x hx;cases hx
 |cons v vs ih =>
  obtain ⟨w,ws,rfl,hv,hs⟩:=h.y5
  simp [dO] at ho
  intro x hx
  rcases List.mem_cons.1 hx with rfl|hx
  ·exact ao2 hv ho.1
  ·exact ih hs ho.2 x hx
theorem Rw.other (h:Rw P comp g σ w) {b:Nat} (hl:¬Live g σ b) (hp:∀ o,g.φ b o=none) (hs:w'.heap.size=w.heap.size) (hb:∀ k,k≠b→w'.heap[k]?=w.heap[k]?):Rw P comp g σ w' where
 frozen b' o v e:=by
  have hne:b'≠b:=by intro e';subst e';rw [hp] at e;cases e
  exact (cell_of_block (a:=⟨b',o,none⟩) (hb b' hne)).trans (h.frozen b' o v e)
 objs i ob e:=by
  obtain ⟨b',n,r,k,f⟩:=h.objs i ob e
  have hne:b'≠b:=by intro e';subst e';exact hl ⟨i,n,by simp [e],r⟩
  exact ⟨b',n,r,k.mono (.refl g) (hb b' hne),f⟩
 inj:=h.inj
 fresh:=h.fresh
 bound i b' n e:=by rw [hs];exact h.bound i b' n e
theorem spliced {cs vs r:List V} {C W:List Value} {n:Nat} (hc:cs.length≤C.length∧∀ (j:Nat) x,cs[j]?=some x→∃ v,C[j]?=some v∧Rv g x v) (hv:kK g vs W) (h:splice n cs vs=some r) :
  n+W.length≤C.length∧r.length=cs.length∧∀ (j:Nat) x,r[j]?=some x→∃ v,(C.take n++W++C.drop (n+W.length))[j]?=some v∧Rv g x v:=by
 obtain ⟨h1,rfl⟩:=Hf h
 have hl:=hv.1
 refine ⟨by omega,by simp;omega,fun j x hx=>?_⟩
 simp only [List.append_assoc,List.getElem?_append,List.length_take,List.getElem?_take,List.getElem?_drop] at hx ⊢
 have e1:min n cs.length=n:=by omega
 have e2:min n C.length=n:=by omega
 rw [e1] at hx
 rw [e2]
 by_cases hj:j<n
 ·simp only [hj,if_true] at hx ⊢
  exact hc.2 j x hx
 ·simp only [hj,if_false] at hx ⊢
  by_cases hj2:j-n<vs.length
  ·rw [if_pos hj2] at hx
   rw [if_pos (by omega)]
   exact hv.get hx
  ·rw [if_neg hj2] at hx
   rw [if_neg (by omega)]
   rw [hl] at hx
   exact hc.2 _ x hx
theorem U1 {d:Nat} {o:Oper} {t:TypeId} {a x:Operand} {a' x':aF} {n:Nat} (hn:kM P t=some n) (ha:bQ a=some a') (hx:bQ x=some x') (ho:o.op=.store t a x):Sound P comp d (.store n a' x') o:=by
 intro g β σ lo fr A w v lo' σ' h e
 have hra:=Rs.ev h.f ha
 have hrx:=Rs.ev h.f hx
 simp only [aZ,jT] at e
 generalize hv:x'.ev fr=vx at e hrx
 generalize hva:a'.ev fr=va at e hra
 have fin:vx≠.undef→Rv g vx (A.eval x)→(bif Nat.beq vx.cells.length n&&dO vx.cells then bH va vx.cells lo σ else OR.fail)=.ok v lo' σ'→nU P comp g β σ w v lo' σ' ((execOp A.eval o).run P w):=by
  intro hu Lc e
  generalize hq:Nat.beq vx.cells.length n=q1 at e
  generalize hq2:dO vx.cells=q2 at e
  cases q1
  ·cases e
  cases q2
  ·cases e
  simp only [Bool.and_self,cond_true] at e
  have hc:=Lc.cells hu
  have hone:=JU hc hq2
  have hlen:(A.eval x).cells.size=n:=by have:=aJ hq;have:=hc.1;simp at this;omega
  have hrun:∀ (b off:Nat) (C:Array Value) (ty:TypeId),A.eval a=.pointer (some ⟨b,off,none⟩)→w.heap[b]?=some (.cells C ty (0,0))→off+(A.eval x).cells.toList.length≤C.toList.length →
    (execOp A.eval o).run P w=.ok .skip (w.setRow b (C.toList.take off++(A.eval x).cells.toList++C.toList.drop (off+(A.eval x).cells.toList.length)).toArray):=by
   intro b off C ty hA hb hl
   have hst:=run_storeCells_at (P:=P) b off ty (A.eval x).cells.toList 0 C w hb (by simpa using hl) hone
   simp only [Nat.add_zero] at hst
   have hne:¬((A.eval x).cells.size≠n):=by simp [hlen]
   simp only [execOp,ho,Instr.storeAt,hA,Instr.sureAddr,aA,Sem.run_pure,Result.andThen,storeVar,iV hn,if_neg hne,hst]
  cases va with
  |bf u off =>
   simp only [bH] at e
   obtain ⟨b,hbu,hA⟩:=hra
   obtain ⟨cs,C,ty,h1,h2,h3,h4⟩:=h.b.boxes u b hbu
   obtain ⟨hnl,hph⟩:=h.b.apart u b hbu
   rw [h1] at e
   dsimp only at e
   cases hs:splice off cs vx.cells with
   |none=>rw [hs] at e;cases e
   |some r =>
    rw [hs] at e
    simp only [OR.ok.injEq] at e
    obtain ⟨rfl,rfl,rfl⟩:=e
    obtain ⟨k1,k2,k3⟩:=spliced (g:=g) (C:=C.toList) ⟨by simp [h3],fun j x hx=>let ⟨z,hz,hr⟩:=h4 j x hx;⟨z,by simpa using hz,hr⟩⟩ hc hs
    have hoth:∀ k,k≠b→(w.setRow b (C.toList.take off++(A.eval x).cells.toList++C.toList.drop (off+(A.eval x).cells.toList.length)).toArray).heap[k]?=w.heap[k]?:=fun k hk=>setRow_other w b k _ hk
    refine ⟨_,_,g,.inr ⟨hrun b off C ty hA h2 k1,rfl⟩,.refl g,.dP (.undef _),h.w.other hnl hph (by simp) hoth,⟨fun t b' e'=>?_,h.b.apart,h.b.inj⟩,⟨rfl,rfl,rfl,by simp,fun k _ _ hk _=>hoth k (by intro e';subst e';exact hk ⟨u,hbu⟩)⟩,fun b hl _=>hl,fun _ _ h _=>h⟩
    rw [wF]
    by_cases hut:u=t
    ·subst hut
     rw [hbu] at e';cases e'
     refine ⟨r,_,ty,by simp,setRow_heap w b C _ ty (0,0) h2,?_,fun j x hx=>?_⟩
     ·simp at k1 ⊢;omega
     ·obtain ⟨z,hz,hr⟩:=k3 j x hx
      exact ⟨z,by simpa using hz,hr⟩
    ·have hne:b'≠b:=by intro e'';subst e'';exact hut (h.b.inj u t b' hbu e')
     obtain ⟨cs',c,ty',g1,g2,g3,g4⟩:=h.b.boxes t b' e'
     exact ⟨cs',c,ty',by simp [hut,g1],(hoth b' hne).trans g2,g3,g4⟩
  |dF id off =>
   simp only [bH] at e
   generalize hX:A.eval a=X at hra
   cases hra with
   |dF _ DT =>
   cases hg:getCells σ id with
   |none=>rw [hg] at e;cases e
   |some cs =>
    rw [hg] at e
    dsimp only at e
    obtain ⟨b,m,C,ty,r,h2,h3,h5,h4,h6,hlive⟩:=h.w.cells hg
    obtain ⟨rfl,rfl⟩:=Prod.mk.inj (gy (r.symm.trans DT))
    cases hs:splice off cs vx.cells with
    |none=>rw [hs] at e;cases e
    |some q =>
     rw [hs] at e
     simp only [OR.ok.injEq] at e
     obtain ⟨rfl,rfl,rfl⟩:=e
     obtain ⟨k1,k2,k3⟩:=spliced (g:=g) (C:=C.toList) ⟨by simp [h3];omega,fun j x hx=>let ⟨z,hz,hr⟩:=h4 j x hx;⟨z,by simpa using hz,hr⟩⟩ hc hs
     have hoth:∀ k,k≠b→(w.setRow b (C.toList.take off++(A.eval x).cells.toList++C.toList.drop (off+(A.eval x).cells.toList.length)).toArray).heap[k]?=w.heap[k]?:=fun k hk=>setRow_other w b k _ hk
     have hlv:∀ b',Live g (σ.set id (.cells q)) b'→Live g σ b':=by
      rintro b' ⟨i,m',hi,hb'⟩
      rw [H.rQ] at hi
      by_cases e1:id=i
      ·subst e1;exact ⟨id,m',by simp [iY hg],hb'⟩
      ·simp [e1] at hi;exact ⟨i,m',hi,hb'⟩
     have hro:Ro P comp g (.cells q) b m (w.setRow b (C.toList.take off++(A.eval x).cells.toList++C.toList.drop (off+(A.eval x).cells.toList.length)).toArray) :=
      ⟨_,ty,setRow_heap w b C _ ty (0,0) h2,by simp at k1 ⊢;omega,by omega,fun j x hx=>let ⟨z,hz,hr⟩:=k3 j x hx;⟨z,by simpa using hz,hr⟩⟩
     refine ⟨_,_,g,.inr ⟨hrun b off C ty hX h2 k1,rfl⟩,.refl g,.dP (.undef _),h.w.put (by simp [iY hg]) r (by simp) hoth hro,h.b.same (.refl g) (fun b' hl _=>hlv b' hl) (fun _ _ hp _ o=>hp o) (fun t b' e'=>hoth b' (by intro e'';subst e'';exact (h.b.apart t b' e').1 hlive)),
      ⟨rfl,rfl,rfl,by simp,fun k _ hk _ _=>hoth k (by intro e';subst e';exact hk hlive)⟩,fun b' hl _=>hlv b' hl,fun _ _ h _=>h⟩
  |_=>simp [bH] at e
 cases vx with
 |bf _ _=>cases e
 |undef=>cases e
 |_=>exact fin (by simp) hrx e
end
section
variable {P:Program} {comp:FuncId→Code→aH} {g g':G} {σ σ':H} {w w':World} {β:Nat→Option Nat} {lo lo':Lo} {fr:List V} {A:Act}
theorem Rw.XQ (h:Rw P comp g σ w) {i:Nat} {es:List (V×V)} (e:mO σ i=some es):∃ b n ents,g.ρ i=some (b,n)∧w.heap[b]?=some (.map ents ents.size)∧ents.size=es.length ∧
  (∀ (i:Nat) (k x:V),es[i]?=some (k,x)→∃ e,ents[i]?=some e∧Rv g k e.key∧Rv g x e.val∧e.born=i)∧(∀ o,g.φ b o=none):=by
 obtain ⟨b,n,hr,ho,hf⟩:=h.objs i _ (wB e)
 obtain ⟨ents,h1,h2,h3⟩:=ho
 exact ⟨b,n,ents,hr,h1,h2,h3,hf⟩
def Ph (cls:Nat) (ds:TypeDesc):Prop:=match cls,ds with
 |0,.slice _=>True
 |1,.string=>True
 |2,.map _ _=>True
 |_,_=>False
theorem aot {ats:Array TypeId} {t ty:TypeId} {ds:TypeDesc} {cls n:Nat} (ht:ats[0]?=some t) (hu:P.underlying t=some ds) (hd:Ph cls ds) (hw:Rw P comp g σ w) {vx:V} {X:Value} (hr:Rs g β vx X)
  (hl:lenOf σ cls vx=some n):(Builtin.len_ ats ty #[X]).run P w=.ok (.int .i64 n) w:=by
 unfold Ph at hd
 split at hd
 ·cases vx<;>simp [lenOf] at hl<;>subst hl<;>cases hr<;>simp [Builtin.len_,ht,aA,run_underlying hu,Result.andThen,goInt]
 ·cases vx<;>simp [lenOf] at hl<;>subst hl
  obtain ⟨bs,rfl,hs⟩:=sS hr rfl
  subst hs
  simp [Builtin.len_,ht,aA,run_underlying hu,Result.andThen,goInt]
 ·cases vx<;>simp [lenOf] at hl
  ·subst hl;cases hr;simp [Builtin.len_,ht,aA,run_underlying hu,Result.andThen,goInt]
  ·rename_i id
   cases hg:mO σ id with
   |none=>rw [hg] at hl;cases hl
   |some es =>
    rw [hg] at hl
    simp at hl
    subst hl
    obtain ⟨b,m,ents,k1,k2,k3,_⟩:=hw.XQ hg
    cases hr with
    |map DT =>
    obtain ⟨rfl,rfl⟩:=Prod.mk.inj (gy (k1.symm.trans DT))
    simp [Builtin.len_,ht,aA,run_underlying hu,Result.andThen,goInt,MapKept.run_getObj_map k2,k3]
 ·exact hd.elim
theorem Gh {d:Nat} {o:Oper} {x:Operand} {x':aF} {ats:Array TypeId} {t:TypeId} {ds:TypeDesc} {cls:Nat} (ht:ats[0]?=some t) (hu:P.underlying t=some ds) (hd:Ph cls ds) (hx:bQ x=some x')
  (ho:o.op=.call { callee:=.builtin .len,args:=#[x],argTypes:=ats }):Sound P comp d (.len cls x') o:=by
 intro g β σ lo fr A w v lo' σ' h e
 simp only [aZ,eP] at e
 cases hl:lenOf σ cls (x'.ev fr) with
 |none=>rw [hl] at e;cases e
 |some n =>
 rw [hl] at e
 simp only [OR.ok.injEq] at e
 obtain ⟨rfl,rfl,rfl⟩:=e
 refine .pure h (x:=.int .i64 n) ?_ (.dP (.int _ _))
 have:=aot (ty:=o.type) ht hu hd h.w (Rs.ev h.f hx) hl
 simp only [execOp,ho,resolve,invoke,builtin,aA,Sem.run_pure,Result.andThen]
 simp [this]
theorem ac4 {d:Nat} {o:Oper} {x:Operand} {x':aF} {ats:Array TypeId} {t el:TypeId} (ht:ats[0]?=some t) (hu:P.underlying t=some (.slice el)) (hx:bQ x=some x')
  (ho:o.op=.call { callee:=.builtin .cap,args:=#[x],argTypes:=ats }):Sound P comp d (.cap x') o:=by
 intro g β σ lo fr A w v lo' σ' h e
 have fin:∀ (b:Option Addr) (l n:Nat),A.eval x=.slice b l n→(execOp A.eval o).run P w=.ok (.value (.int .i64 n)) w:=by
  intro b l n hX
  simp [execOp,ho,hX,resolve,invoke,builtin,Builtin.cap_,ht,aA,run_underlying hu,Result.andThen,goInt]
 have hr:=Rs.ev h.f hx
 simp only [aZ,xQ] at e
 generalize hv:x'.ev fr=vx at e hr
 generalize hX:A.eval x=X at hr
 cases vx<;>try (cases e;done)
 ·simp only [OR.ok.injEq] at e
  obtain ⟨rfl,rfl,rfl⟩:=e
  cases hr
  exact .pure h (fin _ _ _ hX) (.dP (.int _ _))
 ·rename_i xs ex
  cases ex
  ·cases e
  simp only [cond_true,OR.ok.injEq] at e
  obtain ⟨rfl,rfl,rfl⟩:=e
  cases hr with
  |list k vs hk hc he =>
  have:=he rfl
  subst this
  exact .pure h (fin _ _ _ hX) (.dP (.int _ _))
 ·rename_i id off len cap sz
  cases cap with
  |none=>cases e
  |some c =>
  simp only [OR.ok.injEq] at e
  obtain ⟨rfl,rfl,rfl⟩:=e
  cases hr with
  |hsl hh hl hc hn =>
  have:=hc c rfl
  subst this
  exact .pure h (fin _ _ _ hX) (.dP (.int _ _))
end
end Go.Vx
