/- A part of the proof of TopLocks. -/
import Derived.Test.YtbbcoelimmpbaaaGreatDoorVat
set_option linter.all false
set_option linter.unusedVariables false
set_option linter.unusedSimpArgs false
set_option maxRecDepth 1000000
noncomputable section
namespace Go.Vx
section
open Go Go.RowKit
def ad (j:Nat):V:=.iface 1000000 (.int .i64 (.ofNat j))
def Qu (v:V):Option Nat:=match v with
 |.iface t p=>bif Nat.beq t 1000000 then lg p else none
 |_=>none
theorem Fg {v:V} {j:Nat} (h:Qu v=some j):v=ad j:=by
 cases v<;>first|(cases h;done)|skip
 rename_i t p
 simp only [Qu] at h
 cases hb:Nat.beq t 1000000 with
 |false=>rw [hb] at h;cases h
 |true=>rw [hb] at h;rw [aJ hb,lu h];rfl
def IJ:List V→Option (List Nat)
 |[]=>some []
 |x::xs=>match Qu x with
  |some j=>(match IJ xs with|some js=>some (j::js)|none=>none)
  |none=>none
theorem IK:∀ {xs:List V} {js:List Nat},IJ xs=some js→xs=js.map ad
 |[],js,h=>by cases h;rfl
 |x::xs,js,h=>by
  simp only [IJ] at h
  cases h1:Qu x with
  |none=>rw [h1] at h;cases h
  |some j =>
   rw [h1] at h
   dsimp only at h
   cases h2:IJ xs with
   |none=>rw [h2] at h;cases h
   |some Vr=>rw [h2] at h;cases h;rw [Fg h1,IK h2];rfl
def lQ (m:Nat) (ks:V):Option (List Nat):=match ks with
 |.aj=>some []
 |.list xs _=>(match IJ xs with
  |some js=>bif Nat.ble js.length 8&&qc m js then some js else none
  |none=>none)
 |_=>none
theorem kZ {m:Nat} {ks:V} {js:List Nat} (h:lQ m ks=some js):Nat.ble js.length 8=true∧qc m js=true∧((ks=.aj∧js=[])∨∃ e,ks=.list (js.map ad) e):=by
 cases ks<;>first|(cases h;done)|skip
 ·cases h;exact ⟨rfl,rfl,.inl ⟨rfl,rfl⟩⟩
 ·rename_i xs e
  simp only [lQ] at h
  cases h1:IJ xs with
  |none=>rw [h1] at h;cases h
  |some Vr =>
   rw [h1] at h
   dsimp only at h
   cases hb:Nat.ble Vr.length 8&&qc m Vr with
   |false=>rw [hb] at h;cases h
   |true =>
    rw [hb] at h;cases h
    simp only [au] at hb
    exact ⟨hb.1,hb.2,.inr ⟨e,by rw [IK h1]⟩⟩
theorem rY:∀ {m:Nat} {js:List Nat},qc m js=true↔∀ j∈js,j<m
 |m,[]=>by simp [qc]
 |m,j::js=>by simp [qc,rY (js:=js),Nat.blt];omega
def HY (v:V):Bool:=match lC v with
 |some (_,_,_,ks)=>(match lQ 1000 ks with|some _=>true|none=>false)
 |none=>false
structure Th where
 σ:List Nat
 ns:List V
 e:Bool
 oth:List V→V
 nodup:σ.Nodup
 low:∀ s∈σ,s<ns.length
 ok:zH ns=true
 room:ns.length+60≤100000
 plain:∀ p,fD (oth p)=true
 flat:∀ p,aW (oth p)=true
variable (T:Th)
def Th.vV (j:Nat):Nat:=(T.σ[j]?).getD (T.ns.length+(j-T.σ.length))
def Th.ra (p:V):V:=match p with
 |.int _ n=>(match n with|.ofNat j=>.int .i64 (.ofNat (T.vV j))|_=>.int .i64 (.ofNat 0))
 |_=>.int .i64 (.ofNat 0)
def Th.img (v:V):V:=bif HY v then sub T.ra v else nd 1 (.ofNat 0) [] .aj
def xC (v:V):Bool:=match v with|.undef=>true|_=>false
def Th.wW:List Nat→List V→List V→List V
 |s::σ,v::l,ns=>wW σ l (bif xC v then ns else ns.set s (T.img v))
 |[],_,ns=>ns
 |_::_,[],ns=>ns
def Th.G (l:List V):List V:=T.wW T.σ l T.ns++(l.drop T.σ.length).map T.img
def Th.ro (p:V):V:=match p with
 |.int _ n=>(match n with|.ofNat j=>.int .i64 (.ofNat (T.vV j))|_=>.int .i64 (.ofNat 0))
 |.gX l=>.list (T.G l) T.e
 |.list l e=>.list (T.G l) e
 |.tuple ps=>T.oth ps
 |_=>.int .i64 (.ofNat 0)
instance aIu:Good T.ra where
 plain v:=by
  cases v<;>first|rfl|skip
  rename_i k n
  cases n<;>rfl
 flat v:=by
  cases v<;>first|rfl|skip
  rename_i k n
  cases n<;>rfl
theorem aCU (j:Nat):sub T.ra (ad j)=.int .i64 (.ofNat (T.vV j)):=by rw [ad,jf];rfl
theorem NC (j:Nat):sub T.ro (ad j)=.int .i64 (.ofNat (T.vV j)):=by rw [ad,jf];rfl
theorem agy:∀ js:List Nat,subs T.ra (js.map ad)=(js.map T.vV).map fun j=>.int .i64 (.ofNat j)
 |[]=>by simp [subs]
 |j::js=>by simp only [List.map_cons,subs,aCU,agy js]
theorem Kr:∀ js:List Nat,subs T.ro (js.map ad)=(js.map T.vV).map fun j=>.int .i64 (.ofNat j)
 |[]=>by simp [subs]
 |j::js=>by simp only [List.map_cons,subs,NC,Kr js]
theorem Af {m:Nat} {ks:V} {js:List Nat} (h:lQ m ks=some js):sub T.ra ks=sub T.ro ks∧sub T.ro (eu ks)=eu (sub T.ro ks)∧∀ M,(∀ j∈js,T.vV j<M)→lS M (sub T.ro ks)=some (js.map T.vV):=by
 obtain ⟨h8,_,hc⟩:=kZ h
 rcases hc with ⟨rfl,rfl⟩|⟨e,rfl⟩
 ·exact ⟨by simp [sub],by simp [sub,eu],fun M _=>by simp [sub,lS]⟩
 ·refine ⟨by simp only [sub,agy,Kr],?_,fun M hM=>?_⟩
  ·cases js with
   |nil=>simp [eu,sub,subs]
   |cons j js=>simp only [List.map_cons,eu,sub,subs,NC,Kr]
  ·have hl:qc M (js.map T.vV)=true:=rY.2 fun x hx=>by
    obtain ⟨j,hj,rfl⟩:=List.mem_map.1 hx
    exact hM j hj
   have h8':Nat.ble (js.map T.vV).length 8=true:=by rw [List.length_map];exact h8
   simp only [sub,Kr,lS,JM,hl,h8',Bool.and_self,cond_true]
theorem KH (ρ:V→V) (k n:Int) (nm:List Nat) (ks:V):sub ρ (nd k n nm ks)=nd k n nm (sub ρ ks):=by simp only [nd,sub,subs]
theorem VH {j:Nat}:T.vV j<T.ns.length+(j-T.σ.length)+1:=by
 unfold Th.vV
 cases h:T.σ[j]? with
 |none=>simp
 |some s=>have:=T.low s (List.mem_of_getElem? h);simp;omega
theorem aox {v:V} (h:HY v=true):∃ k n nm ks js,v=nd k n nm ks∧lQ 1000 ks=some js:=by
 unfold HY at h
 cases h1:lC v with
 |none=>rw [h1] at h;cases h
 |some p =>
  obtain ⟨k,n,nm,ks⟩:=p
  rw [h1] at h
  dsimp only at h
  cases h2:lQ 1000 ks with
  |none=>rw [h2] at h;cases h
  |some js=>exact ⟨k,n,nm,ks,js,lq h1,h2⟩
theorem ae2 (v:V):abj (T.img v)=true:=by
 unfold Th.img
 cases h:HY v with
 |false=>rfl
 |true =>
  obtain ⟨k,n,nm,ks,js,rfl,hk⟩:=aox h
  obtain ⟨h1,h2,h3⟩:=Af T hk
  have hr:=T.room
  have hj:=(kZ hk).2.1
  have h3:=h3 1000000000 (fun j hj2=>by
   have:=VH T (j:=j)
   have:=rY.1 hj j hj2
   omega)
  simp only [cond_true,KH,abj,rE,h1,h3]
theorem Zl:∀ {ns:List V} {s:Nat} {v:V},zH ns=true→abj v=true→zH (ns.set s v)=true
 |[],s,v,h,_=>by simpa using h
 |x::ns,0,v,h,hv=>by simp only [zH,au] at h;simp only [List.set_cons_zero,zH,hv,h.2,Bool.and_self]
 |x::ns,s+1,v,h,hv=>by simp only [zH,au] at h;simp only [List.set_cons_succ,zH,h.1,Zl h.2 hv,Bool.and_self]
theorem Jq:∀ {a b:List V},zH a=true→zH b=true→zH (a++b)=true
 |[],b,_,h=>h
 |x::a,b,h1,h2=>by simp only [zH,au] at h1;simp only [List.cons_append,zH,h1.1,Jq h1.2 h2,Bool.and_self]
theorem agi:∀ (σ:List Nat) (l ns:List V),zH ns=true→zH (T.wW σ l ns)=true
 |[],l,ns,h=>by simpa [Th.wW] using h
 |s::σ,[],ns,h=>by simpa [Th.wW] using h
 |s::σ,v::l,ns,h=>by
  simp only [Th.wW]
  refine agi σ l _ ?_
  cases xC v with
  |true=>exact h
  |false=>exact Zl h (ae2 T v)
theorem mW:∀ (σ:List Nat) (l ns:List V),(T.wW σ l ns).length=ns.length
 |[],l,ns=>by simp [Th.wW]
 |s::σ,[],ns=>by simp [Th.wW]
 |s::σ,v::l,ns=>by
  simp only [Th.wW]
  rw [mW σ l]
  cases xC v<;>simp
theorem DU (l:List V):(T.G l).length=T.ns.length+(l.length-T.σ.length):=by
 simp only [Th.G,List.length_append,mW,List.length_map,List.length_drop]
theorem JI:∀ l:List V,zH (l.map T.img)=true
 |[]=>rfl
 |v::l=>by simp only [List.map_cons,zH,ae2,JI l,Bool.and_self]
theorem VF (l:List V):zH (T.G l)=true:=Jq (agi T _ _ _ T.ok) (JI T _)
instance aIv:Good T.ro where
 plain v:=by
  cases v<;>first|rfl|exact T.plain _|skip
  rename_i k n
  cases n<;>rfl
 flat v:=by
  cases v<;>first|rfl|exact T.flat _|skip
  ·rename_i k n
   cases n<;>rfl
  ·rename_i l
   simpa [Th.ro,aW] using (wS (VF T l)).2
  ·rename_i l e
   simpa [Th.ro,aW] using (wS (VF T l)).2
theorem Au:∀ (σ:List Nat) (l ns:List V) (s:Nat) (x:V),s∉σ→T.wW σ l (ns.set s x)=(T.wW σ l ns).set s x
 |[],l,ns,s,x,_=>by simp [Th.wW]
 |t::σ,[],ns,s,x,_=>by simp [Th.wW]
 |t::σ,v::l,ns,s,x,h=>by
  have hne:t≠s:=fun e=>h (by rw [e];exact fF)
  have hr:s∉σ:=fun e=>h (eX _ e)
  simp only [Th.wW]
  cases xC v with
  |true=>exact Au σ l ns s x hr
  |false =>
   simp only [cond_false]
   rw [List.set_comm _ _ (Ne.symm hne),Au σ l _ s x hr]
theorem Iq:∀ (σ:List Nat) (l ns:List V) (s:Nat),s∉σ→(T.wW σ l ns)[s]?=ns[s]?
 |[],l,ns,s,_=>by simp [Th.wW]
 |t::σ,[],ns,s,_=>by simp [Th.wW]
 |t::σ,v::l,ns,s,h=>by
  have hne:t≠s:=fun e=>h (by rw [e];exact fF)
  have hr:s∉σ:=fun e=>h (eX _ e)
  simp only [Th.wW]
  rw [Iq σ l _ s hr]
  cases xC v with
  |true=>rfl
  |false=>simp [hne]
theorem PN:∀ (σ:List Nat) (l ns:List V) (j s:Nat) (v:V),σ.Nodup→(∀ s∈σ,s<ns.length)→σ[j]?=some s→l[j]?=some v→xC v=false→(T.wW σ l ns)[s]?=some (T.img v)
 |[],l,ns,j,s,v,_,_,h,_,_=>by simp at h
 |t::σ,[],ns,j,s,v,_,_,_,h,_=>by simp at h
 |t::σ,x::l,ns,0,s,v,hd,hl,h1,h2,hu=>by
  simp at h1 h2
  subst h1;subst h2
  simp only [Th.wW,hu,cond_false]
  rw [Iq T σ l _ t (List.nodup_cons.1 hd).1]
  have:=hl t fF
  simp [this]
 |t::σ,x::l,ns,j+1,s,v,hd,hl,h1,h2,hu=>by
  simp only [List.getElem?_cons_succ] at h1 h2
  simp only [Th.wW]
  refine PN σ l _ j s v (List.nodup_cons.1 hd).2 (fun s hs=>?_) h1 h2 hu
  have:=hl s (eX _ hs)
  cases xC x<;>simpa using this
theorem ZT:∀ (σ:List Nat) (l ns:List V) (j s:Nat) (v w:V),σ.Nodup→σ[j]?=some s→l[j]?=some w→xC w=false→xC v=false→T.wW σ (l.set j v) ns=(T.wW σ l ns).set s (T.img v)
 |[],l,ns,j,s,v,w,_,h,_,_,_=>by simp at h
 |t::σ,[],ns,j,s,v,w,_,_,h,_,_=>by simp at h
 |t::σ,x::l,ns,0,s,v,w,hd,h1,h2,hw,hv=>by
  simp at h1 h2
  subst h1;subst h2
  simp only [List.set_cons_zero,Th.wW,hv,hw,cond_false]
  rw [←Au T σ l _ t _ (List.nodup_cons.1 hd).1,List.set_set]
 |t::σ,x::l,ns,j+1,s,v,w,hd,h1,h2,hw,hv=>by
  simp only [List.getElem?_cons_succ] at h1 h2
  simp only [List.set_cons_succ,Th.wW]
  exact ZT σ l _ j s v w (List.nodup_cons.1 hd).2 h1 h2 hw hv
theorem ari {l:List V} {j:Nat} {v:V} (h:l[j]?=some v) (hu:xC v=false):(T.G l)[T.vV j]?=some (T.img v):=by
 unfold Th.G
 cases hs:T.σ[j]? with
 |some s =>
  have ha:T.vV j=s:=by simp [Th.vV,hs]
  have hl:=T.low s (List.mem_of_getElem? hs)
  rw [ha,List.getElem?_append_left (by rw [mW];exact hl)]
  exact PN T _ _ _ _ _ _ T.nodup T.low hs h hu
 |none =>
  have hj:T.σ.length≤j:=by simpa using hs
  have ha:T.vV j=T.ns.length+(j-T.σ.length):=by simp [Th.vV,hs]
  rw [ha,List.getElem?_append_right (by rw [mW];omega),mW]
  have:T.ns.length+(j-T.σ.length)-T.ns.length=j-T.σ.length:=by omega
  rw [this,List.getElem?_map,List.getElem?_drop]
  have:T.σ.length+(j-T.σ.length)=j:=by omega
  rw [this,h];rfl
theorem amC {l:List V} (v:V) (h:T.σ.length≤l.length):T.G (l++[v])=T.G l++[T.img v]:=by
 have hov:∀ (σ:List Nat) (l ns:List V),σ.length≤l.length→T.wW σ (l++[v]) ns=T.wW σ l ns:=by
  intro σ
  induction σ with
  |nil=>intro l ns _;cases l<;>simp [Th.wW]
  |cons s σ ih =>
   intro l ns h
   cases l with
   |nil=>simp at h
   |cons x l=>simp only [List.cons_append,Th.wW];exact ih l _ (by simpa using h)
 unfold Th.G
 rw [hov _ _ _ h,List.drop_append_of_le_length h,List.map_append,List.append_assoc]
 rfl
theorem aAg {l:List V} {j:Nat} {v w:V} (h:l[j]?=some w) (hw:xC w=false) (hv:xC v=false):T.G (l.set j v)=(T.G l).set (T.vV j) (T.img v):=by
 unfold Th.G
 cases hs:T.σ[j]? with
 |some s =>
  have ha:T.vV j=s:=by simp [Th.vV,hs]
  have hl:=T.low s (List.mem_of_getElem? hs)
  have hj:j<T.σ.length:=by
   rcases Nat.lt_or_ge j T.σ.length with h1|h1
   ·exact h1
   ·rw [gI h1] at hs;cases hs
  rw [ha,List.set_append_left _ _ (by rw [mW];exact hl),ZT T _ _ _ _ _ _ _ T.nodup hs h hw hv]
  rw [List.drop_set_of_lt hj]
 |none =>
  have hj:T.σ.length≤j:=by simpa using hs
  have ha:T.vV j=T.ns.length+(j-T.σ.length):=by simp [Th.vV,hs]
  have hov:∀ (σ:List Nat) (l ns:List V) (j:Nat),σ.length≤j→T.wW σ (l.set j v) ns=T.wW σ l ns:=by
   intro σ
   induction σ with
   |nil=>intro l ns j _;cases h:l.set j v<;>cases l<;>simp [Th.wW]
   |cons s σ ih =>
    intro l ns j h
    cases l with
    |nil=>simp [Th.wW]
    |cons x l =>
     cases j with
     |zero=>simp at h
     |succ j=>simp only [List.set_cons_succ,Th.wW];exact ih l _ j (by simpa using h)
  rw [ha,hov _ _ _ _ hj,List.set_append_right _ _ (by rw [mW];omega),mW]
  have e:T.ns.length+(j-T.σ.length)-T.ns.length=j-T.σ.length:=by omega
  rw [e,List.drop_set,if_neg (by omega),List.map_set]
end
section
open Go Go.RowKit
def agn (p:V):Option (List V):=match p with
 |.gX l=>some l
 |.list l _=>some l
 |_=>none
def aah (v:V):Option V:=match v with
 |.iface t p=>bif Nat.beq t 1000000 then some p else none
 |_=>none
theorem YR {v p:V} (h:aah v=some p):v=.iface 1000000 p:=by
 cases v<;>first|(cases h;done)|skip
 rename_i t q
 simp only [aah] at h
 cases hb:Nat.beq t 1000000 with
 |false=>rw [hb] at h;cases h
 |true=>rw [hb] at h;cases h;rw [aJ hb]
def Pj (k0:Nat) (v:V):Option (List V×Int):=match v with
 |.agg cs=>(match cs with
  |[a,b]=>(match aah a with
   |some p=>(match agn p with
    |some l=>(match b with
     |.int k most=>bif eqK k .i64&&(Nat.ble k0 l.length&&(Nat.blt l.length (k0+50)&&Nat.blt l.length 1000)) then some (l,most) else none
     |_=>none)
    |none=>none)
   |none=>none)
  |_=>none)
 |_=>none
theorem ab7 {k0:Nat} {v:V} {l:List V} {most:Int} (h:Pj k0 v=some (l,most)):k0≤l.length∧l.length<k0+50∧l.length<1000∧∃ p,(p=.gX l∨∃ e,p=.list l e)∧v=.agg [.iface 1000000 p,.int .i64 most]:=by
 cases v<;>first|(cases h;done)|skip
 rename_i cs
 match cs,h with
 |[],h=>cases h
 |[_],h=>cases h
 |_::_::_::_,h=>cases h
 |[a,b],h =>
  simp only [Pj] at h
  cases h1:aah a with
  |none=>rw [h1] at h;cases h
  |some p =>
   rw [h1] at h
   dsimp only at h
   cases h2:agn p with
   |none=>rw [h2] at h;cases h
   |some l2 =>
    rw [h2] at h
    dsimp only at h
    cases b<;>first|(cases h;done)|skip
    rename_i k m
    dsimp only at h
    cases hb:eqK k .i64&&(Nat.ble k0 l2.length&&(Nat.blt l2.length (k0+50)&&Nat.blt l2.length 1000)) with
    |false=>rw [hb] at h;cases h
    |true =>
     rw [hb] at h
     cases h
     simp only [au,Nat.ble_eq,Nat.blt,kP,decide_eq_true_eq] at hb
     obtain ⟨rfl,g1,g2,g3⟩:=hb
     refine ⟨g1,g2,g3,p,?_,by rw [YR h1]⟩
     cases p<;>first|(cases h2;done)|skip
     ·cases h2;exact .inl rfl
     ·cases h2;exact .inr ⟨_,rfl⟩
def lAt (l:List V):Nat→Nat→Option V
 |0,_=>none
 |f+1,j=>match skip j l with
  |[]=>none
  |v::_=>match lC v with
   |none=>none
   |some (k,n,nm,ks)=>match lQ 1000 ks with
    |none=>none
    |some js=>bif vZ k (Int.ofNat 6) then (match js with|[b]=>lAt l f b|_=>none)
     else some (.tuple [nd k n nm (eu ks),ad j,.int .i64 (.ofNat 0)])
def ayr (k0:Nat) (args:List V):Option V:=match args with
 |[a,b]=>(match Pj k0 a with
  |some (l,_)=>(match Qu b with
   |some j=>lAt l 3 j
   |none=>(match lg b with
    |some j=>bif Nat.beq j 0 then lAt l 3 0 else none
    |none=>none))
  |none=>none)
 |_=>none
def O8 (k0:Nat) (M:Int) (args:List V):Option V:=match args with
 |[a,b]=>(match Pj k0 a with
  |some (l,most)=>(match lC b with
   |some (k,n,nm,ks)=>(match lQ (l.length+1) ks with
    |some js=>bif oC k n nm js.length&&vZ most M&&Nat.ble l.length 900
     then some (.tuple [.agg [.iface 1000000 (.list (l++[nd k n nm (eu ks)]) false),.int .i64 most],ad l.length,.int .i64 (.ofNat 0)]) else none
    |none=>none)
   |none=>none)
  |none=>none)
 |_=>none
def Hz (v:V):Bool:=match lC v with
 |some (k,_,_,_)=>vZ k (Int.ofNat 4)||vZ k (Int.ofNat 5)
 |none=>false
def afp (k0:Nat) (args:List V):Option V:=match args with
 |[a,i,b]=>(match Pj k0 a with
  |some (l,most)=>(match Qu i with
   |some j=>(match lC b with
    |some (k,n,nm,ks)=>(match lQ l.length ks with
     |some js=>(match skip j l with
      |w::_=>bif oC k n nm js.length&&Hz w
       then some (.tuple [.agg [.iface 1000000 (.list (l.set j (nd k n nm (eu ks))) true),.int .i64 most],.int .i64 (.ofNat 0)]) else none
      |[]=>none)
     |none=>none)
    |none=>none)
   |none=>none)
  |none=>none)
 |_=>none
variable (T:Th)
theorem Kw {ns:List V} {i:Nat} {v:V} (h:ns[i]?=some v):∃ rest,skip i ns=v::rest:=by
 have h1:i<ns.length:=by
  rcases Nat.lt_or_ge i ns.length with h1|h1
  ·exact h1
  ·rw [gI h1] at h;cases h
 rw [EK,List.drop_eq_getElem_cons h1]
 have:ns[i]=v:=by
  have h2:=fM h1
  rw [h2] at h
  exact gy h
 exact ⟨_,by rw [this]⟩
theorem GH {ns rest:List V} {i:Nat} {v:V} (h:skip i ns=v::rest):ns[i]?=some v:=(uG h).2
theorem WZ {k n:Int} {nm:List Nat} {ks:V} {js:List Nat} (hk:lQ 1000 ks=some js):T.img (nd k n nm ks)=nd k n nm (sub T.ro ks):=by
 have h1:HY (nd k n nm ks)=true:=by simp only [HY,rE,hk]
 simp only [Th.img,h1,cond_true,KH,(Af T hk).1]
theorem amI {j:Nat} (h:j<1000):T.vV j<1000000000:=by
 have:=VH T (j:=j)
 have:=T.room
 omega
theorem FW {l:List V}:∀ {f j:Nat} {v:V},lAt l f j=some v→gAt (T.G l) f (T.vV j)=some (sub T.ro v)
 |0,j,v,h=>by cases h
 |f+1,j,v,h=>by
  simp only [lAt] at h
  cases h1:skip j l with
  |nil=>rw [h1] at h;cases h
  |cons w rest =>
   rw [h1] at h
   dsimp only at h
   cases h2:lC w with
   |none=>rw [h2] at h;cases h
   |some p =>
    obtain ⟨k,n,nm,ks⟩:=p
    rw [h2] at h
    dsimp only at h
    have hw:=lq h2
    subst hw
    cases h3:lQ 1000 ks with
    |none=>rw [h3] at h;cases h
    |some js =>
     rw [h3] at h
     dsimp only at h
     have hg:=ari T (GH h1) rfl
     rw [WZ T h3] at hg
     obtain ⟨r2,hs⟩:=Kw hg
     obtain ⟨_,k2,k3⟩:=Af T h3
     simp only [gAt,hs,rE]
     cases h6:vZ k (Int.ofNat 6) with
     |true =>
      rw [h6] at h
      simp only [cond_true] at h ⊢
      match js,h,h3 with
      |[],h,_=>cases h
      |[b],h,h3 =>
       obtain ⟨_,_,hc⟩:=kZ h3
       rcases hc with ⟨_,hq⟩|⟨e,rfl⟩
       ·cases hq
       ·have hi:RP (sub T.ro (.list ([b].map ad) e))=some (T.vV b):=by
         simp only [sub,Kr,List.map_cons,List.map_nil,RP]
         rfl
        rw [hi]
        exact FW h
      |_::_::_,h,_=>cases h
     |false =>
      rw [h6] at h
      simp only [cond_false,aC] at h ⊢
      subst h
      have k3:=k3 1000000000 (fun j hj=>amI T (rY.1 (kZ h3).2.1 j hj))
      rw [k3]
      simp only [sub,subs,KH,NC,k2]
theorem XL {k0:Nat} {v:V} {l:List V} {most:Int} (hk:T.σ.length=k0) (h:Pj k0 v=some (l,most)):Aa (sub T.ro v)=some (T.G l,most)∧Nat.ble (T.G l).length 100000=true∧(T.G l).length=T.ns.length+(l.length-T.σ.length)∧T.σ.length≤l.length∧l.length<T.σ.length+50∧l.length<1000:=by
 obtain ⟨h1,h2,h3,p,hp,rfl⟩:=ab7 h
 have hl:=DU T l
 have hr:=T.room
 refine ⟨?_,by simp;omega,hl,by omega,by omega,h3⟩
 rcases hp with rfl|⟨e,rfl⟩<;>(simp only [sub,subs,jf];rfl)
theorem afo {k0:Nat} {args:List V} {v:V} (hk:T.σ.length=k0) (hz:T.vV 0=0) (h:ayr k0 args=some v):atS (subs T.ro args)=some (sub T.ro v):=by
 match args,h with
 |[],h=>cases h
 |[_],h=>cases h
 |_::_::_::_,h=>cases h
 |[a,b],h =>
  simp only [ayr] at h
  cases h1:Pj k0 a with
  |none=>rw [h1] at h;cases h
  |some p =>
   obtain ⟨l,most⟩:=p
   rw [h1] at h
   dsimp only at h
   obtain ⟨g1,g2,_⟩:=XL T hk h1
   cases h2:Qu b with
   |none =>
    rw [h2] at h
    dsimp only at h
    cases h3:lg b with
    |none=>rw [h3] at h;cases h
    |some j =>
     rw [h3] at h
     dsimp only at h
     cases h4:Nat.beq j 0 with
     |false=>rw [h4] at h;cases h
     |true =>
      rw [h4] at h
      have hj:=aJ h4
      subst hj
      have hb:=lu h3
      subst hb
      have hn:lg (sub T.ro (.int .i64 (.ofNat 0)))=some (T.vV 0):=by rw [hz];simp only [sub];rfl
      simp only [subs,atS,g1,hn,VF,g2,Bool.and_self,cond_true]
      exact FW T h
   |some j =>
    rw [h2] at h
    dsimp only at h
    have hb:=Fg h2
    subst hb
    have hn:lg (sub T.ro (ad j))=some (T.vV j):=by rw [NC];rfl
    simp only [subs,atS,g1,hn,VF,g2,Bool.and_self,cond_true]
    exact FW T h
theorem CW {l:List V} {j:Nat} (hs:T.σ.length≤l.length) (h:j<l.length):T.vV j<T.ns.length+(l.length-T.σ.length):=by
 unfold Th.vV
 cases hq:T.σ[j]? with
 |none =>
      have:T.σ.length≤j:=by simpa using hq
      simp;omega
 |some s=>have:=T.low s (List.mem_of_getElem? hq);simp;omega
theorem GL {m m2:Nat} {ks:V} {js:List Nat} (h:lQ m ks=some js) (hm:m≤m2):lQ m2 ks=some js:=by
 obtain ⟨h8,ha,hc⟩:=kZ h
 have hb:qc m2 js=true:=rY.2 fun j hj=>by have:=rY.1 ha j hj;omega
 cases ks<;>first|(cases h;done)|exact h|skip
 rename_i xs e
 simp only [lQ] at h ⊢
 cases h1:IJ xs with
 |none=>rw [h1] at h;cases h
 |some Vr =>
  rw [h1] at h
  dsimp only at h ⊢
  cases hq:Nat.ble Vr.length 8&&qc m Vr with
  |false=>rw [hq] at h;cases h
  |true=>rw [hq] at h;cases h;simp only [h8,hb,Bool.and_self,cond_true]
theorem SQ {k0:Nat} {M:Int} {args:List V} {v:V} (hk:T.σ.length=k0) (hM:uK (Int.ofNat (T.ns.length+50)) M=true) (h:O8 k0 M args=some v):IQ (subs T.ro args)=some (sub T.ro v):=by
 match args,h with
 |[],h=>cases h
 |[_],h=>cases h
 |_::_::_::_,h=>cases h
 |[a,b],h =>
  simp only [O8] at h
  cases h1:Pj k0 a with
  |none=>rw [h1] at h;cases h
  |some p =>
   obtain ⟨l,most⟩:=p
   rw [h1] at h
   dsimp only at h
   cases h2:lC b with
   |none=>rw [h2] at h;cases h
   |some q =>
    obtain ⟨k,n,nm,ks⟩:=q
    rw [h2] at h
    dsimp only at h
    cases h3:lQ (l.length+1) ks with
    |none=>rw [h3] at h;cases h
    |some js =>
     rw [h3] at h
     dsimp only at h
     cases h4:oC k n nm js.length&&vZ most M&&Nat.ble l.length 900 with
     |false=>rw [h4] at h;cases h
     |true =>
      rw [h4] at h
      simp only [cond_true,aC] at h
      subst h
      simp only [au,Nat.ble_eq] at h4
      obtain ⟨⟨g1,g2⟩,g3⟩:=h4
      have g2:most=M:=by rw [qW] at g2;simpa using g2
      subst g2
      obtain ⟨e1,e2,e3,e4,e5,e6⟩:=XL T hk h1
      have hw:=lq h2
      subst hw
      have h5:=GL h3 (show l.length+1≤1000 by omega)
      obtain ⟨_,k2,k3⟩:=Af T h3
      have k3:=k3 ((T.G l).length+1) (fun j hj=>by
       have hj2:=rY.1 (kZ h3).2.1 j hj
       have:=VH T (j:=j)
       rw [e3]
       rcases Nat.lt_or_ge j l.length with h6|h6
       ·have:=CW T e4 h6;omega
       ·have:j=l.length:=by omega
        subst this;omega)
      have hlt:uK (Int.ofNat (T.G l).length) most=true:=by
       rw [sO] at hM ⊢
       simp only [decide_eq_true_eq,Int.ofNat_eq_natCast] at hM ⊢
       omega
      have hjs:(js.map T.vV).length=js.length:=by simp
      simp only [subs,KH,IQ,e1,rE,k3,VF,e2,hlt,hjs,g1,Bool.and_self,cond_true]
      have hal:=amC T (l:=l) (nd k n nm (eu ks)) e4
      have hci:T.img (nd k n nm (eu ks))=nd k n nm (eu (sub T.ro ks)):=by
       have hk3:∃ Vr,lQ 1000 (eu ks)=some Vr:=by
        obtain ⟨h8,ha,hc⟩:=kZ h5
        rcases hc with ⟨rfl,_⟩|⟨e,rfl⟩
        ·exact ⟨[],rfl⟩
        ·cases js with
         |nil=>exact ⟨[],rfl⟩
         |cons j js=>exact ⟨j::js,by simpa [eu,lQ] using h5⟩
       obtain ⟨Vr,hk3⟩:=hk3
       rw [WZ T hk3,k2]
      have had:T.vV l.length=(T.G l).length:=by
       rw [e3]
       unfold Th.vV
       rw [gI e4]
       rfl
      simp only [sub,subs,jf,NC,had,Th.ro,hal,hci]
      rfl
theorem abT {k0:Nat} {args:List V} {v:V} (hk:T.σ.length=k0) (h:afp k0 args=some v):ag3 (subs T.ro args)=some (sub T.ro v):=by
 match args,h with
 |[],h=>cases h
 |[_],h=>cases h
 |[_,_],h=>cases h
 |_::_::_::_::_,h=>cases h
 |[a,i,b],h =>
  simp only [afp] at h
  cases h1:Pj k0 a with
  |none=>rw [h1] at h;cases h
  |some p =>
   obtain ⟨l,most⟩:=p
   rw [h1] at h
   dsimp only at h
   cases h0:Qu i with
   |none=>rw [h0] at h;cases h
   |some j =>
    rw [h0] at h
    dsimp only at h
    cases h2:lC b with
    |none=>rw [h2] at h;cases h
    |some q =>
     obtain ⟨k,n,nm,ks⟩:=q
     rw [h2] at h
     dsimp only at h
     cases h3:lQ l.length ks with
     |none=>rw [h3] at h;cases h
     |some js =>
      rw [h3] at h
      dsimp only at h
      cases hs:skip j l with
      |nil=>rw [hs] at h;cases h
      |cons w rest =>
       rw [hs] at h
       dsimp only at h
       cases h4:oC k n nm js.length&&Hz w with
       |false=>rw [h4] at h;cases h
       |true =>
        rw [h4] at h
        simp only [cond_true,aC] at h
        subst h
        simp only [au] at h4
        obtain ⟨e1,e2,e3,e4,e5,e6⟩:=XL T hk h1
        have hi:=Fg h0
        subst hi
        have hw:=lq h2
        subst hw
        have h5:=GL h3 (show l.length≤1000 by omega)
        obtain ⟨_,k2,k3⟩:=Af T h3
        have hget:=GH hs
        have hj:j<l.length:=by
         rcases Nat.lt_or_ge j l.length with h6|h6
         ·exact h6
         ·rw [gI h6] at hget;cases hget
        have k3:=k3 (T.G l).length (fun j hj=>by
         have hj2:=rY.1 (kZ h3).2.1 j hj
         rw [e3];exact CW T e4 hj2)
        have hlt:Nat.blt (T.vV j) (T.G l).length=true:=by
         have:=CW T e4 hj
         rw [e3];simp [Nat.blt];omega
        have hu:xC w=false:=by
         cases w<;>first|rfl|(have:=h4.2;cases this)
        have hn:lg (sub T.ro (ad j))=some (T.vV j):=by rw [NC];rfl
        have hjs:(js.map T.vV).length=js.length:=by simp
        simp only [subs,KH,ag3,e1,hn,rE,k3,VF,e2,hlt,hjs,h4.1,Bool.and_self,cond_true]
        have hst:=aAg T (v:=nd k n nm (eu ks)) hget hu rfl
        have hci:T.img (nd k n nm (eu ks))=nd k n nm (eu (sub T.ro ks)):=by
         have hk3:∃ Vr,lQ 1000 (eu ks)=some Vr:=by
          obtain ⟨h8,ha,hc⟩:=kZ h5
          rcases hc with ⟨rfl,_⟩|⟨e,rfl⟩
          ·exact ⟨[],rfl⟩
          ·cases js with
           |nil=>exact ⟨[],rfl⟩
           |cons j js=>exact ⟨j::js,by simpa [eu,lQ] using h5⟩
         obtain ⟨Vr,hk3⟩:=hk3
         rw [WZ T hk3,k2]
        simp only [sub,subs,jf,Th.ro,hst,hci]
        rfl
end
section
open Go
mutual
def jO:V→Bool
 |.iface _ _=>false
 |.gX cs=>nY cs
 |.list xs _=>nY xs
 |.func _ a b=>nY a&&nY b
 |.agg cs=>nY cs
 |.tuple cs=>nY cs
 |_=>true
def nY:List V→Bool
 |[]=>true
 |v::vs=>jO v&&nY vs
end
variable {ρ:V→V}
mutual
theorem jD:∀ (v:V),jO v=true→sub ρ v=v
 |.iface _ _,h=>by simp [jO] at h
 |.gX cs,h=>by simp only [sub];rw [jH cs (by simpa [jO] using h)]
 |.list xs e,h=>by simp only [sub];rw [jH xs (by simpa [jO] using h)]
 |.func fn a b,h=>by
  simp only [jO,au] at h
  simp only [sub];rw [jH a h.1,jH b h.2]
 |.agg cs,h=>by simp only [sub];rw [jH cs (by simpa [jO] using h)]
 |.tuple cs,h=>by simp only [sub];rw [jH cs (by simpa [jO] using h)]
 |.undef,_=>by simp only [sub]
 |.bool _,_=>by simp only [sub]
 |.int _ _,_=>by simp only [sub]
 |.str _,_=>by simp only [sub]
 |.nilPtr,_=>by simp only [sub]
 |.bf _ _,_=>by simp only [sub]
 |.dF _ _,_=>by simp only [sub]
 |.aj,_=>by simp only [sub]
 |.hsl _ _ _ _ _,_=>by simp only [sub]
 |.dV,_=>by simp only [sub]
 |.map _,_=>by simp only [sub]
 |.nilFunc,_=>by simp only [sub]
 |.nilIface,_=>by simp only [sub]
theorem jH:∀ (l:List V),nY l=true→subs ρ l=l
 |[],_=>by simp only [subs]
 |v::l,h=>by
  simp only [nY,au] at h
  simp only [subs]
  rw [jD v h.1,jH l h.2]
end
def dX:aF→Bool
 |.tmp _=>true
 |.const v=>jO v
theorem aB {x:aF} (h:dX x=true):aN ρ x=x:=by
 cases x with
 |tmp t=>rfl
 |const v=>simp only [aN];rw [jD v h]
def ZW:Option aF→Bool
 |none=>true
 |some x=>dX x
theorem DJ {x:Option aF} (h:ZW x=true):CO ρ x=x:=by
 cases x with
 |none=>rfl
 |some x=>simp only [CO];rw [aB h]
def G6:List aF→Bool
 |[]=>true
 |x::l=>dX x&&G6 l
theorem rJ:∀ {l:List aF},G6 l=true→yg ρ l=l
 |[],_=>rfl
 |x::l,h=>by
  simp only [G6,au] at h
  simp only [yg];rw [aB h.1,rJ h.2]
def Ux:List (Nat×Nat×aF)→Bool
 |[]=>true
 |(_,_,x)::l=>dX x&&Ux l
theorem DK:∀ {l:List (Nat×Nat×aF)},Ux l=true→zk ρ l=l
 |[],_=>rfl
 |(a,b,x)::l,h=>by
  simp only [Ux,au] at h
  simp only [zk];rw [aB h.1,DK h.2]
def fA:l7→Bool
 |.mv x=>dX x
 |.pick c a b=>dX c&&dX a&&dX b
 |.alloc z=>nY z
 |.bM z=>nY z
 |.yA x=>dX x
 |.BR x=>dX x
 |.build z p=>nY z&&Ux p
 |.lit z _ _ p=>nY z&&Ux p
 |.mF a=>dX a
 |.nR _ a=>dX a
 |.store _ a x=>dX a&&dX x
 |.ji x=>dX x
 |.eq _ _ x y=>dX x&&dX y
 |.bin _ x y=>dX x&&dX y
 |.not x=>dX x
 |.neg x=>dX x
 |.iF _ x=>dX x
 |.vS x=>dX x
 |.zK x=>dX x
 |.jV x=>dX x
 |.toStr x=>dX x
 |.gY _ x=>dX x
 |.bJ _ a b=>G6 a&&G6 b
 |.mkMap =>true
 |.mkSlice z l c=>nY z&&dX l&&dX c
 |.slice _ _ x l h m=>dX x&&ZW l&&ZW h&&ZW m
 |.fieldAddr _ x=>dX x
 |.field _ _ _ x=>dX x
 |.aV _ x i=>dX x&&dX i
 |.qZ _ _ x i=>dX x&&dX i
 |.index x i=>dX x&&dX i
 |.oM _ _ _ x i=>dX x&&dX i
 |.lookup _ z _ m k=>jO z&&dX m&&dX k
 |.bV _ m k x=>dX m&&dX k&&dX x
 |.wU z m k=>jO z&&dX m&&dX k
 |.oU m s x=>dX m&&dX s&&dX x
 |.extract _ x=>dX x
 |.len _ x=>dX x
 |.cap x=>dX x
 |.max x y=>dX x&&dX y
 |.min x y=>dX x&&dX y
 |.append _ x y=>dX x&&dX y
 |.lI z x n=>nY z&&dX x&&dX n
 |.copy _ x y=>dX x&&dX y
 |.clear z x=>nY z&&dX x
 |.nS x y=>dX x&&dX y
 |.kQ z l c=>nY z&&dX l&&dX c
 |.mG n x y=>dX x&&dX y
 |.recover =>true
 |.bad =>true
theorem KG {o:l7} (h:fA o=true):gQ ρ o=o:=by
 cases o with
 |mv x=>simp only [fA,au] at h;simp only [gQ];rw [aB h]
 |pick c a b=>simp only [fA,au] at h;simp only [gQ];rw [aB h.1.1,aB h.1.2,aB h.2]
 |alloc z=>simp only [fA,au] at h;simp only [gQ];rw [jH _ h]
 |bM z=>simp only [fA,au] at h;simp only [gQ];rw [jH _ h]
 |yA x=>simp only [fA,au] at h;simp only [gQ];rw [aB h]
 |BR x=>simp only [fA,au] at h;simp only [gQ];rw [aB h]
 |build z p=>simp only [fA,au] at h;simp only [gQ];rw [jH _ h.1,DK h.2]
 |lit z a b p=>simp only [fA,au] at h;simp only [gQ];rw [jH _ h.1,DK h.2]
 |mF a=>simp only [fA,au] at h;simp only [gQ];rw [aB h]
 |nR n a=>simp only [fA,au] at h;simp only [gQ];rw [aB h]
 |store n a x=>simp only [fA,au] at h;simp only [gQ];rw [aB h.1,aB h.2]
 |ji x=>simp only [fA,au] at h;simp only [gQ];rw [aB h]
 |eq n c x y=>simp only [fA,au] at h;simp only [gQ];rw [aB h.1,aB h.2]
 |bin b x y=>simp only [fA,au] at h;simp only [gQ];rw [aB h.1,aB h.2]
 |not x=>simp only [fA,au] at h;simp only [gQ];rw [aB h]
 |neg x=>simp only [fA,au] at h;simp only [gQ];rw [aB h]
 |iF k x=>simp only [fA,au] at h;simp only [gQ];rw [aB h]
 |vS x=>simp only [fA,au] at h;simp only [gQ];rw [aB h]
 |zK x=>simp only [fA,au] at h;simp only [gQ];rw [aB h]
 |jV x=>simp only [fA,au] at h;simp only [gQ];rw [aB h]
 |toStr x=>simp only [fA,au] at h;simp only [gQ];rw [aB h]
 |gY t x=>simp only [fA,au] at h;simp only [gQ];rw [aB h]
 |bJ f a b=>simp only [fA,au] at h;simp only [gQ];rw [rJ h.1,rJ h.2]
 |mkMap=>rfl
 |mkSlice z l c=>simp only [fA,au] at h;simp only [gQ];rw [jH _ h.1.1,aB h.1.2,aB h.2]
 |slice s n x l h m=>simp only [fA,au] at h;simp only [gQ];rw [aB h.1.1.1,DJ h.1.1.2,DJ h.1.2,DJ h.2]
 |fieldAddr f x=>simp only [fA,au] at h;simp only [gQ];rw [aB h]
 |field a f n x=>simp only [fA,au] at h;simp only [gQ];rw [aB h]
 |aV n x i=>simp only [fA,au] at h;simp only [gQ];rw [aB h.1,aB h.2]
 |qZ s n x i=>simp only [fA,au] at h;simp only [gQ];rw [aB h.1,aB h.2]
 |index x i=>simp only [fA,au] at h;simp only [gQ];rw [aB h.1,aB h.2]
 |oM a s n x i=>simp only [fA,au] at h;simp only [gQ];rw [aB h.1,aB h.2]
 |lookup kc z ok m k=>simp only [fA,au] at h;simp only [gQ];rw [jD _ h.1.1,aB h.1.2,aB h.2]
 |bV kc m k x=>simp only [fA,au] at h;simp only [gQ];rw [aB h.1.1,aB h.1.2,aB h.2]
 |wU z m k=>simp only [fA,au] at h;simp only [gQ];rw [jD _ h.1.1,aB h.1.2,aB h.2]
 |oU m s x=>simp only [fA,au] at h;simp only [gQ];rw [aB h.1.1,aB h.1.2,aB h.2]
 |extract i x=>simp only [fA,au] at h;simp only [gQ];rw [aB h]
 |len c x=>simp only [fA,au] at h;simp only [gQ];rw [aB h]
 |cap x=>simp only [fA,au] at h;simp only [gQ];rw [aB h]
 |max x y=>simp only [fA,au] at h;simp only [gQ];rw [aB h.1,aB h.2]
 |min x y=>simp only [fA,au] at h;simp only [gQ];rw [aB h.1,aB h.2]
 |append n x y=>simp only [fA,au] at h;simp only [gQ];rw [aB h.1,aB h.2]
 |lI z x n=>simp only [fA,au] at h;simp only [gQ];rw [jH _ h.1.1,aB h.1.2,aB h.2]
 |copy n x y=>simp only [fA,au] at h;simp only [gQ];rw [aB h.1,aB h.2]
 |clear z x=>simp only [fA,au] at h;simp only [gQ];rw [jH _ h.1,aB h.2]
 |nS x y=>simp only [fA,au] at h;simp only [gQ];rw [aB h.1,aB h.2]
 |mG n x y=>simp only [fA,au] at h;simp only [gQ];rw [aB h.1,aB h.2]
 |kQ z l c=>simp only [fA,au] at h;simp only [gQ];rw [jH _ h.1.1,aB h.1.2,aB h.2]
 |recover=>rfl
 |bad=>rfl
def EI:Ins→Bool
 |.op _ o=>fA o
 |.call _ _ a0s=>G6 a0s
 |.dyn _ f a0s=>dX f&&G6 a0s
 |.defer _ f a0s=>dX f&&G6 a0s
 |.grd _ _ _ i=>EI i
 |.chk _ _ o=>fA o
theorem NR:∀ {i:Ins},EI i=true→yc ρ i=i
 |.op d o,h=>by simp only [yc];rw [KG (by simpa [EI] using h)]
 |.call d f a0s,h=>by simp only [yc];rw [rJ (by simpa [EI] using h)]
 |.dyn d f a0s,h=>by simp only [EI,au] at h;simp only [yc];rw [aB h.1,rJ h.2]
 |.defer d f a0s,h=>by simp only [EI,au] at h;simp only [yc];rw [aB h.1,rJ h.2]
 |.grd t b d i,h=>by simp only [yc];rw [NR (by simpa [EI] using h)]
 |.chk g t o,h=>by simp only [yc];rw [KG (by simpa [EI] using h)]
def J6:List Ins→Bool
 |[]=>true
 |i::l=>EI i&&J6 l
theorem DI:∀ {l:List Ins},J6 l=true→tZ ρ l=l
 |[],_=>rfl
 |i::l,h=>by
  simp only [J6,au] at h
  simp only [tZ];rw [NR h.1,DI h.2]
def qj:aH→Bool
 |.region l=>J6 l
 |.draw l=>J6 l
 |.seq a b=>qj a&&qj b
 |.cond c a b=>dX c&&qj a&&qj b
 |.block _ c=>qj c
 |.loop c=>qj c
 |.rangeFunc f _ a b=>dX f&&qj a&&qj b
 |.scope c=>qj c
 |_=>true
theorem lY:∀ {c:aH},qj c=true→jY ρ c=c
 |.skip,_=>rfl
 |.exit _,_=>rfl
 |.label _,_=>rfl
 |.goto _,_=>rfl
 |.ret,_=>rfl
 |.region l,h=>by simp only [jY];rw [DI (by simpa [qj] using h)]
 |.draw l,h=>by simp only [jY];rw [DI (by simpa [qj] using h)]
 |.seq a b,h=>by simp only [qj,au] at h;simp only [jY];rw [lY h.1,lY h.2]
 |.cond c a b,h=>by simp only [qj,au] at h;simp only [jY];rw [aB h.1.1,lY h.1.2,lY h.2]
 |.block i c,h=>by simp only [jY];rw [lY (by simpa [qj] using h)]
 |.loop c,h=>by simp only [jY];rw [lY (by simpa [qj] using h)]
 |.rangeFunc f ps a b,h=>by simp only [qj,au] at h;simp only [jY];rw [aB h.1.1,lY h.1.2,lY h.2]
 |.scope c,h=>by simp only [jY];rw [lY (by simpa [qj] using h)]
def Uy:T ak→Bool
 |.leaf=>true
 |.node o l r=>(match o with|some v=>qj v.body|none=>true)&&Uy l&&Uy r
theorem BL:∀ {t:T ak} {i:Nat} {v:ak},Uy t=true→t.get i=some v→qj v.body=true
 |.leaf,i,v,_,h=>by cases h
 |.node o l r,i,v,hp,h=>by
  simp only [Uy,au] at hp
  simp only [T.get] at h
  cases h0:Nat.beq i 0 with
  |true =>
   rw [h0] at h
   simp only [cond_true] at h
   subst h
   exact hp.1.1
  |false =>
   rw [h0] at h
   simp only [cond_false] at h
   cases h1:Nat.beq (i%2) 1 with
   |true=>rw [h1] at h;exact BL hp.1.2 h
   |false=>rw [h1] at h;exact BL hp.2 h
end
section
open Go Go.RowKit
def Sm (f:Nat):Bool:=Nat.beq f 87||Nat.beq f 398||Nat.beq f 281||Nat.beq f 70||Nat.beq f 438
def oW (f:Nat):Option ak:=bif Sm f then none else Tab.fns f
def mmF (ext:iO):iO:=fun f=>bif Nat.beq f 87 then some ⟨atS⟩ else bif Nat.beq f 398 then some ⟨IQ⟩ else bif Nat.beq f 281 then some ⟨ag3⟩ else bif Nat.beq f 70||Nat.beq f 438 then ext f else none
def TF (k0:Nat) (M:Int) (ext:iO):iO:=fun f=>bif Nat.beq f 87 then some ⟨ayr k0⟩ else bif Nat.beq f 398 then some ⟨O8 k0 M⟩ else bif Nat.beq f 281 then some ⟨afp k0⟩ else bif Nat.beq f 70||Nat.beq f 438 then ext f else none
theorem Zk:Uy Tab.ft=true:=by decide +kernel
theorem ayD {ext:iO} (he:qR Go.Proofs.Tryz.prog qQ ext):qR Go.Proofs.Tryz.prog qQ (mmF ext):=fun f args v h=>by
 unfold aG mmF at h
 cases h1:Nat.beq f 87 with
 |true=>rw [h1] at h;rw [aJ h1];exact axg h
 |false =>
  rw [h1] at h
  cases h2:Nat.beq f 398 with
  |true=>rw [h2] at h;rw [aJ h2];exact aax h
  |false =>
   rw [h2] at h
   cases h3:Nat.beq f 281 with
   |true=>rw [h3] at h;rw [aJ h3];exact apq h
   |false =>
    rw [h3] at h
    cases h4:Nat.beq f 70||Nat.beq f 438 with
    |true=>rw [h4] at h;exact he f args v h
    |false=>rw [h4] at h;cases h
theorem azn {ext:iO} (he:qR Go.Proofs.Tryz.prog qQ ext):∀ n,La Go.Proofs.Tryz.prog qQ (runM (mmF ext) oW n):=by
 have hq:∀ f vf,oW f=some vf→Tab.fns f=some vf:=fun f vf h=>by
  unfold oW at h
  cases hc:Sm f with
  |true=>rw [hc] at h;cases h
  |false=>rw [hc] at h;exact h
 exact AU Tab.mixes (ayD he) (fun f vf hf=>(Tab.Jm f vf (hq f vf hf)).1) (fun f vf hf=>(Tab.Jm f vf (hq f vf hf)).2) (fun q hq=>by
  have:q=154:=by simpa [qQ] using hq
  subst this;exact Ed)
theorem aoH (T:Th) {k0:Nat} {M:Int} {ext QW:iO} (hk:T.σ.length=k0) (hz:T.vV 0=0) (hM:uK (Int.ofNat (T.ns.length+50)) M=true)
  (hx:∀ f args v,aG QW f args=some v→aG ext f (subs T.ro args)=some (sub T.ro v)):yu T.ro (TF k0 M QW) (mmF ext) oW where
 known f args v h:=by
  have hx2:=hx f args v
  unfold aG TF at h
  unfold aG mmF
  cases h1:Nat.beq f 87 with
  |true=>rw [h1] at h;exact afo T hk hz h
  |false =>
   rw [h1] at h
   cases h2:Nat.beq f 398 with
   |true=>rw [h2] at h;exact SQ T hk hM h
   |false =>
    rw [h2] at h
    cases h3:Nat.beq f 281 with
    |true=>rw [h3] at h;exact abT T hk h
    |false =>
     rw [h3] at h
     cases h4:Nat.beq f 70||Nat.beq f 438 with
     |true=>rw [h4] at h;exact hx2 h
     |false=>rw [h4] at h;cases h
 bare f vf h:=by
  unfold oW at h
  cases hc:Sm f with
  |true=>rw [hc] at h;cases h
  |false =>
   rw [hc] at h
   simp only [Sm,Bool.or_eq_false_iff] at hc
   obtain ⟨⟨⟨⟨h1,h2⟩,h3⟩,h4⟩,h5⟩:=hc
   refine ⟨fun a=>?_,lY (BL Zk h)⟩
   unfold aG mmF
   rw [h1,h2,h3,h4,h5]
   rfl
end
section
open Go Go.RowKit
def EvA (mm:iO) (fns:Nat→Option ak) (f:Nat) (a:List V) (v:V):Prop:=bT a=true∧aW v=true∧∃ N,∀ m,N≤m→∃ h,runM mm fns m (.call f a) [] [] emp=.val v h
variable {mm XT:iO} {fns:Nat→Option ak} {f n:Nat} {a:List V} {v u:V} {ρ:V→V}
theorem EvA.uniq (h1:EvA mm fns f a v) (h2:EvA mm fns f a u):v=u:=by
 obtain ⟨_,_,N1,k1⟩:=h1
 obtain ⟨_,_,N2,k2⟩:=h2
 obtain ⟨g1,e1⟩:=k1 (N1+N2) (by omega)
 obtain ⟨g2,e2⟩:=k2 (N1+N2) (by omega)
 rw [e1] at e2
 cases e2;rfl
open Classical in
noncomputable def lim (mm:iO) (fns:Nat→Option ak) (f:Nat) (a:List V):Option V:=if h:∃ v,EvA mm fns f a v then some h.choose else none
theorem FX (h:EvA mm fns f a v):lim mm fns f a=some v:=by
 have hx:∃ v,EvA mm fns f a v:=⟨v,h⟩
 unfold lim
 rw [dif_pos hx]
 exact congrArg some (hx.choose_spec.uniq h)
theorem Ai (h:lim mm fns f a=some v):EvA mm fns f a v:=by
 unfold lim at h
 by_cases hx:∃ v,EvA mm fns f a v
 ·rw [dif_pos hx] at h
  cases h
  exact hx.choose_spec
 ·rw [dif_neg hx] at h;cases h
theorem EvA.ans (hs:∀ n,La Go.Proofs.Tryz.prog qQ (runM mm fns n)) (h:EvA mm fns f a v):Ans f a v:=by
 obtain ⟨h1,h2,N,k⟩:=h
 obtain ⟨g,e⟩:=k N (bC _)
 exact VN hs e h1 h2
theorem evX (he:qN (pz mm fns n (.call f a) zX bx0 emp) v=true) (ha:bT a=true) (hv:aW v=true):EvA mm fns f a v:=by
 refine ⟨ha,hv,?_⟩
 cases ho:pz mm fns n (.call f a) zX bx0 emp with
 |val w h1 =>
  rw [ho] at he
  have he:l9 w v=true:=he
  have h2:yG [w] [v]=true:=by
   change (bif l9 w v then true else false)=true
   rw [he];rfl
  have:=(List.cons.inj (uh _ _ h2)).1
  subst this
  obtain ⟨N,hN⟩:=(AQ (mm:=mm) (fns:=fns) n).call ho [] []
  exact ⟨N,fun m hm=>⟨h1,hN m hm⟩⟩
 |_=>rw [ho] at he;cases he
theorem evS [Good ρ] (hm:yu ρ mm XT fns) (he:qN (pz mm fns n (.call f a) zX bx0 emp) v=true) (ha:bT (subs ρ a)=true) (hv:aW (sub ρ v)=true):EvA XT fns f (subs ρ a) (sub ρ v):=by
 refine ⟨ha,hv,?_⟩
 cases ho:pz mm fns n (.call f a) zX bx0 emp with
 |val w h1 =>
  rw [ho] at he
  have he:l9 w v=true:=he
  have h2:yG [w] [v]=true:=by
   change (bif l9 w v then true else false)=true
   rw [he];rfl
  have:=(List.cons.inj (uh _ _ h2)).1
  subst this
  obtain ⟨N,hN⟩:=(AQ (mm:=mm) (fns:=fns) n).call ho [] []
  refine ⟨N,fun m hm2=>⟨dH ρ h1,?_⟩⟩
  have h1:=(P8 hm m).go (.call f a) [] [] emp
  rw [hN m hm2] at h1
  have h3:=h1 (by intro h;cases h)
  simp only [DF,nN,subs] at h3
  exact h3
 |_=>rw [ho] at he;cases he
noncomputable def exL:iO:=fun f=>bif Nat.beq f 70||Nat.beq f 438 then some ⟨lim ED Tab.fns f⟩ else none
theorem Wx:qR Go.Proofs.Tryz.prog qQ exL:=fun f a v h=>by
 unfold aG exL at h
 cases hb:Nat.beq f 70||Nat.beq f 438 with
 |false=>rw [hb] at h;cases h
 |true=>rw [hb] at h;exact (Ai (show lim ED Tab.fns f a=some v from h)).ans (Tab.lW wG)
abbrev Cc (f:Nat) (a:List V) (v:V):Prop:=EvA ED Tab.fns f a v
noncomputable abbrev mmB:iO:=mmF exL
abbrev EvB (f:Nat) (a:List V) (v:V):Prop:=EvA mmB oW f a v
theorem evK (T:Th) {k0:Nat} {M:Int} {QW:iO} (hk:T.σ.length=k0) (hz:T.vV 0=0) (hM:uK (Int.ofNat (T.ns.length+50)) M=true)
  (hx:∀ f args v,aG QW f args=some v→aG exL f (subs T.ro args)=some (sub T.ro v))
  (hr:qN (pz (TF k0 M QW) oW n (.call f a) zX bx0 emp) v=true) (ha:bT (subs T.ro a)=true) (hv:aW (sub T.ro v)=true):EvB f (subs T.ro a) (sub T.ro v) :=
 evS (aoH T hk hz hM hx) hr ha hv
end
section
open Go Go.RowKit
def sy (p:V):V:=.iface 1000000 p
def jn (n:Nat):V:=.int .i64 (.ofNat n)
structure Ks where
 x:List V
 l:List V
 c:V
 ver:Nat
 m:Nat
 e:Bool
def thr (u:Nat):V:=.agg [sy (.tuple [jn u,jn 0]),sy (.tuple [jn u,jn 1]),sy (.tuple [jn u,jn 2]),sy (.tuple [jn u,jn 3]),sy (.tuple [jn u,jn 4]),sy (.tuple [jn u,jn 5]),sy (.tuple [jn u,jn 6]),sy (.tuple [jn u,jn 7]),sy (.tuple [jn u,jn 8]),sy (.tuple [jn u,jn 9]),sy (.tuple [jn u,jn 10])]
def DL (t:Nat) (x:List V):Nat→Nat→List V
 |_,0=>[]
 |u,n+1=>(bif Nat.beq u t then .agg x else thr u)::DL t x (u+1) n
structure Cst where
 ops:V
 defs:V
 most:Int
 deep:Int
def KY:V:=sy (.tuple [.bool false])
def aL4 (m:Nat):V:=bif Nat.beq m 1 then .aj else KY
def lZ (C:Cst) (hp:V) (c:V) (ver:Nat) (w:V) (ts:List V) (e:Bool):V:=.agg [C.ops,C.defs,hp,.int .i64 C.most,c,jn ver,w,.list ts e,.aj]
def axf (C:Cst) (t:Nat) (s:Ks):List V:=[lZ C (sy (.gX s.l)) s.c s.ver (aL4 s.m) (DL t s.x 0 s.m) s.e,jn t,.int .i64 C.deep]
def aw9:Nat→V→List Nat→List Nat
 |0,_,acc=>acc
 |f+1,v,acc=>match v with
  |.iface t p=>bif Nat.beq t 1000000 then (match p with|.int _ (.ofNat j)=>j::acc|_=>acc) else acc
  |.list xs _=>adF f xs acc
  |.agg xs=>adF f xs acc
  |_=>acc
where adF:Nat→List V→List Nat→List Nat
 |0,_,acc=>acc
 |_+1,[],acc=>acc
 |f+1,v::vs,acc=>aw9 f v (adF f vs acc)
def mark:Nat→List V→List Nat→List Nat→List Nat
 |0,_,_,seen=>seen
 |_+1,_,[],seen=>seen
 |f+1,l,j::js,seen=>bif vK j seen then mark f l js seen else mark f l (match bn j l with|some v=>aw9 60 v js|none=>js) (j::seen)
def keep:Nat→List Nat→List V→List V
 |_,_,[]=>[]
 |i,seen,v::l=>(bif vK i seen then v else .undef)::keep (i+1) seen l
def forget (x:List V) (c:V) (l:List V):List V:=keep 0 (mark 2000 l (0::aw9 60 (.agg (c::x)) []) []) l
def azr (v:V):V×V:=match v with|.tuple l=>(match l with|[a,b]=>(a,b)|_=>(.undef,.undef))|_=>(.undef,.undef)
def aBx (v:V):List V:=match v with|.list l _=>l|_=>[]
def aLh (v:V):Nat:=match v with|.int _ n=>(match n with|.ofNat j=>j|_=>0)|_=>0
def cellsD (v:V):List V:=match v with|.agg l=>l|_=>[]
def hpL (v:V):List V:=match v with|.iface _ p=>(match agn p with|some l=>l|none=>[])|_=>[]
def ayI (t:Nat) (r:V):Ks :=
 let w:=cellsD (azr r).1
 let ts:=aBx (aO w 7)
 let x:=cellsD (aO ts t)
 ⟨x,hpL (aO w 2),aO w 4,aLh (aO w 5),ts.length,false⟩
def tidy (s:Ks):Ks:=⟨s.x,forget s.x s.c s.l,s.c,s.ver,s.m,s.e⟩
end
section
open Go Go.RowKit
mutual
def qo (L:Nat):V→Bool
 |.bool _=>true
 |.int _ _=>true
 |.str _=>true
 |.aj=>true
 |.list xs _=>xB L xs
 |.agg xs=>xB L xs
 |.iface t p=>Nat.beq t 1000000&&(match p with|.int k n=>eqK k .i64&&(match n with|.ofNat j=>Nat.blt j L|_=>false)|_=>false)
 |_=>false
def xB (L:Nat):List V→Bool
 |[]=>true
 |v::vs=>qo L v&&xB L vs
end
theorem RJ {L t:Nat} {p:V} (h:qo L (.iface t p)=true):t=1000000∧∃ j,p=.int .i64 (.ofNat j)∧j<L:=by
 simp only [qo,au] at h
 refine ⟨aJ h.1,?_⟩
 cases p<;>first|(cases h.2;done)|skip
 rename_i k n
 have h2:=h.2
 simp only [au] at h2
 cases n with
 |negSucc n=>cases h2.2
 |ofNat j =>
  rw [kP] at h2
  simp only [decide_eq_true_eq] at h2
  obtain ⟨rfl,h3⟩:=h2
  exact ⟨j,rfl,by simpa [Nat.blt,Nat.succ_le_iff] using h3⟩
mutual
theorem Iy {L:Nat} {r1 r2:V→V} (hr:∀ j,j<L→r1 (.int .i64 (.ofNat j))=r2 (.int .i64 (.ofNat j))):∀ (v:V),qo L v=true→sub r1 v=sub r2 v
 |.bool _,_=>by simp only [sub]
 |.int _ _,_=>by simp only [sub]
 |.str _,_=>by simp only [sub]
 |.aj,_=>by simp only [sub]
 |.list xs e,h=>by simp only [sub];rw [KI hr xs (by simpa [qo] using h)]
 |.agg xs,h=>by simp only [sub];rw [KI hr xs (by simpa [qo] using h)]
 |.iface t p,h=>by
  obtain ⟨rfl,j,rfl,hj⟩:=RJ h
  rw [jf,jf,hr j hj]
 |.undef,h=>by simp [qo] at h
 |.nilPtr,h=>by simp [qo] at h
 |.bf _ _,h=>by simp [qo] at h
 |.dF _ _,h=>by simp [qo] at h
 |.gX _,h=>by simp [qo] at h
 |.hsl _ _ _ _ _,h=>by simp [qo] at h
 |.dV,h=>by simp [qo] at h
 |.map _,h=>by simp [qo] at h
 |.nilFunc,h=>by simp [qo] at h
 |.func _ _ _,h=>by simp [qo] at h
 |.nilIface,h=>by simp [qo] at h
 |.tuple _,h=>by simp [qo] at h
theorem KI {L:Nat} {r1 r2:V→V} (hr:∀ j,j<L→r1 (.int .i64 (.ofNat j))=r2 (.int .i64 (.ofNat j))):∀ (l:List V),xB L l=true→subs r1 l=subs r2 l
 |[],_=>by simp only [subs]
 |v::l,h=>by
  simp only [xB,au] at h
  simp only [subs]
  rw [Iy hr v h.1,KI hr l h.2]
end
def rA (A:Nat→Nat) (p:V):V:=match p with
 |.int _ n=>(match n with|.ofNat j=>.int .i64 (.ofNat (A j))|_=>.int .i64 (.ofNat 0))
 |_=>.int .i64 (.ofNat 0)
def pf (v:V):V:=bif fD v&&aW v then v else .int .i64 (.ofNat 0)
theorem Az (v:V):fD (pf v)=true:=by
 unfold pf
 cases h:fD v&&aW v with
 |true=>simp only [au] at h;exact h.1
 |false=>rfl
theorem wH (v:V):aW (pf v)=true:=by
 unfold pf
 cases h:fD v&&aW v with
 |true=>simp only [au] at h;exact h.2
 |false=>rfl
theorem Us {v:V} (h:fD v=true) (h2:aW v=true):pf v=v:=by simp only [pf,h,h2,Bool.and_self,cond_true]
def ao6 (xs:List V) (w p:V) (ps:List V):V:=match ps with
 |[a]=>pf w
 |[a,b]=>(match lg a with
  |some u=>(match lg b with
   |some i=>pf (aO (cellsD (aO xs u)) i)
   |none=>.int .i64 (.ofNat 0))
  |none=>.int .i64 (.ofNat 0))
 |_=>pf p
theorem JY (xs:List V) (w p:V) (ps:List V):fD (ao6 xs w p ps)=true∧aW (ao6 xs w p ps)=true:=by
 unfold ao6
 split
 ·exact ⟨Az _,wH _⟩
 ·split
  ·split
   ·exact ⟨Az _,wH _⟩
   ·exact ⟨rfl,rfl⟩
  ·exact ⟨rfl,rfl⟩
 ·exact ⟨Az _,wH _⟩
def Vo (X:V):Prop:=∃ cs,X=.agg cs∧cs.length=11∧∀ c∈cs,fD c=true∧aW c=true
structure Vw (A:Nat→Nat) (l ns:List V):Prop where
 zero:A 0=0
 pos:0<l.length
 inj:∀ i j,i<l.length→j<l.length→A i=A j→i=j
 low:∀ j,j<l.length→A j<ns.length
 node:∀ j v,l[j]?=some v→xC v=false→HY v=true∧qo l.length v=true∧ns[A j]?=some (sub (rA A) v)
def DW (A:Nat→Nat) (L N:Nat) (j:Nat):Nat:=if j<L then A j else N+(j-L)
section
variable {A:Nat→Nat} {l ns:List V} (hv:Vw A l ns) (hok:zH ns=true) (hroom:ns.length+60≤100000) (e:Bool) (xs:List V) (w p:V)
include hv hok hroom
def iH:Th where
 σ:=(List.range l.length).map A
 ns:=ns
 e:=e
 oth:=ao6 xs w p
 nodup:=by
  rw [List.nodup_iff_pairwise_ne,List.pairwise_map]
  refine List.Pairwise.imp_of_mem ?_ (List.nodup_range (n:=l.length))
  intro a b ha hb hne hq
  exact hne (hv.inj a b (List.mem_range.1 ha) (List.mem_range.1 hb) hq)
 low s hs:=by
  obtain ⟨j,hj,rfl⟩:=List.mem_map.1 hs
  exact hv.low j (List.mem_range.1 hj)
 ok:=hok
 room:=hroom
 plain ps:=(JY xs w p ps).1
 flat ps:=(JY xs w p ps).2
end
variable {A:Nat→Nat} {l ns:List V} {hv:Vw A l ns} {hok:zH ns=true} {hroom:ns.length+60≤100000} {e:Bool} {xs:List V} {w p:V}
theorem F5 (j:Nat):(iH hv hok hroom e xs w p).vV j=DW A l.length ns.length j:=by
 unfold Th.vV iH DW
 dsimp only
 by_cases hj:j<l.length
 ·rw [List.getElem?_map,List.getElem?_range hj]
  simp [hj]
 ·rw [gI (by simp;omega)]
  simp [hj]
theorem Dv:(iH hv hok hroom e xs w p).σ.length=l.length:=by simp [iH]
theorem aBC:(iH hv hok hroom e xs w p).ra=rA (DW A l.length ns.length):=by
 funext v
 cases v<;>first|rfl|skip
 rename_i k n
 cases n with
 |ofNat j=>show V.int .i64 (.ofNat ((iH hv hok hroom e xs w p).vV j))=V.int .i64 (.ofNat (DW A l.length ns.length j));rw [F5]
 |negSucc n=>rfl
theorem qA {L:Nat} {v:V} (h:qo L v=true):sub (iH hv hok hroom e xs w p).ro v=sub (rA (DW A l.length ns.length)) v:=by
 refine Iy (L:=L) (fun j _=>?_) v h
 show (.int .i64 (.ofNat ((iH hv hok hroom e xs w p).vV j)):V)=.int .i64 (.ofNat (DW A l.length ns.length j))
 rw [F5]
theorem CV {j:Nat} (h:j<l.length):DW A l.length ns.length j=A j:=by simp [DW,h]
theorem RN {v:V} (h:qo l.length v=true):sub (rA (DW A l.length ns.length)) v=sub (rA A) v:=by
 refine Iy (L:=l.length) (fun j hj=>?_) v h
 show (.int .i64 (.ofNat (DW A l.length ns.length j)):V)=.int .i64 (.ofNat (A j))
 rw [CV hj]
theorem Jt {v:V} (h:HY v=true):(iH hv hok hroom e xs w p).img v=sub (rA (DW A l.length ns.length)) v:=by
 unfold Th.img
 rw [h,aBC]
 rfl
theorem ag4 {ns:List V} {s:Nat} {x:V} (h:ns[s]?=some x):ns.set s x=ns:=by
 apply List.ext_getElem?
 intro i
 rw [List.getElem?_set]
 split
 ·rename_i hi
  subst hi
  split
  ·exact h.symm
  ·rename_i hl
   rw [gI (by omega)]
 ·rfl
theorem VG:(iH hv hok hroom e xs w p).G l=ns:=by
 have key:∀ (T:Th) (σ:List Nat) (l2 uM:List V),(∀ (j:Nat) (v:V) (s:Nat),l2[j]?=some v→xC v=false→σ[j]?=some s→uM[s]?=some (T.img v))→T.wW σ l2 uM=uM:=by
  intro T σ
  induction σ with
  |nil=>intro l2 uM _;simp [Th.wW]
  |cons s σ ih =>
   intro l2 uM hh
   cases l2 with
   |nil=>simp [Th.wW]
   |cons v l2 =>
    simp only [Th.wW]
    have h1:(bif xC v then uM else uM.set s (T.img v))=uM:=by
     cases hu:xC v with
     |true=>rfl
     |false=>exact ag4 (hh 0 v s rfl hu rfl)
    rw [h1]
    exact ih l2 uM fun j v s h1 h2 h3=>hh (j+1) v s (by simpa using h1) h2 (by simpa using h3)
 unfold Th.G
 rw [key]
 ·rw [Dv,List.drop_length]
  simp [iH]
 ·intro j v s h1 h2 h3
  have hj:j<l.length:=by
   rcases Nat.lt_or_ge j l.length with h|h
   ·exact h
   ·rw [gI h] at h1;cases h1
  obtain ⟨k1,k2,k3⟩:=hv.node j v h1 h2
  have hs:s=A j:=by
   have:(iH hv hok hroom e xs w p).σ[j]?=some (A j):=by
    show ((List.range l.length).map A)[j]?=_
    rw [List.getElem?_map,List.getElem?_range hj];rfl
   rw [this] at h3;exact (gy h3).symm
  subst hs
  show ns[A j]?=_
  rw [k3,Jt k1,RN k2]
end
section
open Go Go.RowKit
mutual
theorem uZ {ρ:V→V} [Good ρ]:∀ (v:V),aW v=true→aW (sub ρ v)=true
 |.undef,_=>by simp only [sub,aW]
 |.bool _,_=>by simp only [sub,aW]
 |.int _ _,_=>by simp only [sub,aW]
 |.str _,_=>by simp only [sub,aW]
 |.nilPtr,_=>by simp only [sub,aW]
 |.bf _ _,_=>by simp only [sub,aW]
 |.dF _ _,h=>by simp [aW] at h
 |.gX cs,h=>by simp only [sub,aW];exact qY cs (by simpa [aW] using h)
 |.aj,_=>by simp only [sub,aW]
 |.list xs e,h=>by simp only [sub,aW];exact qY xs (by simpa [aW] using h)
 |.hsl _ _ _ _ _,h=>by simp [aW] at h
 |.dV,_=>by simp only [sub,aW]
 |.map _,h=>by simp [aW] at h
 |.nilFunc,_=>by simp only [sub,aW]
 |.func fn a b,h=>by
  cases fn with
  |func f =>
   simp only [aW,au] at h
   simp only [sub,aW,qY a h.1,qY b h.2,Bool.and_self]
  |_=>simp [aW] at h
 |.nilIface,_=>by simp only [sub,aW]
 |.iface t v,h=>by
  rw [jr]
  cases Nat.beq t 1000000 with
  |true=>exact Good.flat v
  |false=>simp only [cond_false,aW];exact uZ v (by simpa [aW] using h)
 |.agg cs,h=>by simp only [sub,aW];exact qY cs (by simpa [aW] using h)
 |.tuple cs,h=>by simp only [sub,aW];exact qY cs (by simpa [aW] using h)
theorem qY {ρ:V→V} [Good ρ]:∀ (l:List V),bT l=true→bT (subs ρ l)=true
 |[],_=>by simp only [subs,bT]
 |v::l,h=>by
  simp only [bT,au] at h
  simp only [subs,bT,uZ v h.1,qY l h.2,Bool.and_self]
end
noncomputable def agl (t:Nat) (vars:V) (args:List V):Option V:=match args with
 |[w,a,b]=>bif l9 w KY&&(l9 a (jn t)&&l9 b vars) then some (.tuple [sy (.tuple [.bool true,jn t,vars]),.int .i64 0]) else none
 |_=>none
noncomputable def OC (C:Cst) (t:Nat) (vars:V):iO:=fun f=>bif Nat.beq f 70 then some ⟨recall [([.agg [C.ops,C.defs]],.bool true)]⟩ else bif Nat.beq f 438 then some ⟨agl t vars⟩ else none
variable {C:Cst} {t:Nat} {vars w p:V}
theorem jS {a b:V} (h:l9 a b=true):a=b:=by
 have h2:yG [a] [b]=true:=by
  change (bif l9 a b then true else false)=true
  rw [h];rfl
 exact (List.cons.inj (uh _ _ h2)).1
theorem aew {ρ:V→V} [Good ρ] (hp:jO C.ops=true) (hd:jO C.defs=true) (hvars:jO vars=true) (zZ:Cc 70 [.agg [C.ops,C.defs]] (.bool true)) (lN:Cc 438 [w,jn t,vars] (.tuple [p,.int .i64 0])) (hw:ρ (.tuple [.bool false])=w) (hq:ρ (.tuple [.bool true,jn t,vars])=p) :
  ∀ f args v,aG (OC C t vars) f args=some v→aG exL f (subs ρ args)=some (sub ρ v):=by
 intro f args v h
 unfold aG OC at h
 unfold aG exL
 cases h1:Nat.beq f 70 with
 |true =>
  rw [h1] at h
  have hm:=Ko (show recall [([.agg [C.ops,C.defs]],.bool true)] args=some v from h)
  simp only [List.mem_singleton,Prod.mk.injEq] at hm
  obtain ⟨rfl,rfl⟩:=hm
  rw [aJ h1]
  simp only [subs,sub,jD _ hp,jD _ hd,Bool.true_or,cond_true]
  exact FX zZ
 |false =>
  rw [h1] at h
  cases h3:Nat.beq f 438 with
  |false=>rw [h3] at h;cases h
  |true =>
   rw [h3] at h
   have h:agl t vars args=some v:=h
   match args,h with
   |[],h=>cases h
   |[_],h=>cases h
   |[_,_],h=>cases h
   |_::_::_::_::_,h=>cases h
   |[a,b,c],h =>
    simp only [agl] at h
    cases hb:l9 a KY&&(l9 b (jn t)&&l9 c vars) with
    |false=>rw [hb] at h;cases h
    |true =>
     rw [hb] at h
     cases h
     simp only [au] at hb
     rw [jS hb.1,jS hb.2.1,jS hb.2.2]
     have e1:sub ρ KY=w:=by rw [KY,sy,jf,hw]
     have e2:sub ρ (jn t)=jn t:=by simp only [jn,sub]
     rw [aJ h3]
     simp only [subs,e1,e2,jD _ hvars,sub,sy,jf,hq,Bool.or_true,cond_true]
     exact FX lN
theorem rD:∀ {l:List V} {i:Nat} {v:V},l[i]?=some v→aO l i=v
 |[],i,v,h=>by simp at h
 |x::l,0,v,h=>by simp at h;subst h;rfl
 |x::l,i+1,v,h=>by rw [iL];exact rD (by simpa using h)
theorem aag {ρ:V→V} [Good ρ] {xs:List V} {u:Nat} {X:V} (hX:xs[u]?=some X) (hc:Vo X) (ho:∀ i,ρ (.tuple [jn u,jn i])=pf (aO (cellsD (aO xs u)) i)):sub ρ (thr u)=X:=by
 obtain ⟨cs,rfl,hl,hp⟩:=hc
 rw [rD hX] at ho
 have hc:∀ i,i<11→ρ (.tuple [jn u,jn i])=aO cs i:=by
  intro i hi
  rw [ho i]
  have hmem:aO cs i∈cs:=by
   have h1:cs[i]?=some cs[i]:=fM (by omega)
   rw [rD h1]
   exact List.getElem_mem _
  exact Us (hp _ hmem).1 (hp _ hmem).2
 simp only [thr,sub,subs,sy,jf,hc 0 (by omega),hc 1 (by omega),hc 2 (by omega),hc 3 (by omega),hc 4 (by omega),hc 5 (by omega),hc 6 (by omega),hc 7 (by omega),hc 8 (by omega),hc 9 (by omega),hc 10 (by omega)]
 match cs,hl with
 |[a0,a1,a2,a3,a4,a5,a6,a7,a8,a9,a10],_=>rfl
theorem KR {ρ:V→V} [Good ρ] {xs x:List V} {t:Nat} (hxs:∀ X∈xs,Vo X) (ht:xs[t]?=some (.agg (subs ρ x))) (ho:∀ u i,u≠t→ρ (.tuple [jn u,jn i])=pf (aO (cellsD (aO xs u)) i)) :
  ∀ (n u:Nat),u+n=xs.length→subs ρ (DL t x u n)=xs.drop u
 |0,u,h=>by rw [DL,yh,List.drop_eq_nil_of_le (by omega)]
 |n+1,u,h=>by
  have hu:u<xs.length:=by omega
  have h1:xs[u]?=some xs[u]:=fM hu
  rw [DL,uQ,KR hxs ht ho n (u+1) (by omega),List.drop_eq_getElem_cons hu]
  congr 1
  cases hb:Nat.beq u t with
  |true =>
   have:=aJ hb
   subst this
   rw [ht] at h1
   simp only [cond_true,sub]
   exact gy h1
  |false =>
   simp only [cond_false]
   exact aag h1 (hxs _ (List.getElem_mem _)) fun i=>ho u i (by intro he;subst he;simp at hb)
theorem Ef {L:Nat} (v:V):qo L v=true→aW v=true:=by
 refine V.rec (motive_1:=fun v=>qo L v=true→aW v=true) (motive_2:=fun l=>xB L l=true→bT l=true) ?_ ?_ ?_ ?_ ?_ ?_ ?_ ?_ ?_ ?_ ?_ ?_ ?_ ?_ ?_ ?_ ?_ ?_ ?_ ?_ ?_ v
 ·intro h;simp [qo] at h
 ·intro b _;rfl
 ·intro k n _;rfl
 ·intro s _;rfl
 ·intro h;simp [qo] at h
 ·intro a b h;simp [qo] at h
 ·intro a b h;simp [qo] at h
 ·intro cs ih h;simp [qo] at h
 ·intro _;rfl
 ·intro xs e ih h;simp only [aW];exact ih (by simpa [qo] using h)
 ·intro a b c d e h;simp [qo] at h
 ·intro h;simp [qo] at h
 ·intro a h;simp [qo] at h
 ·intro h;simp [qo] at h
 ·intro f a b i1 i2 h;simp [qo] at h
 ·intro h;simp [qo] at h
 ·intro t v ih h;obtain ⟨rfl,j,rfl,_⟩:=RJ h;rfl
 ·intro cs ih h;simp only [aW];exact ih (by simpa [qo] using h)
 ·intro cs ih h;simp [qo] at h
 ·intro _;rfl
 ·intro v l i1 i2 h
  simp only [xB,au] at h
  simp only [bT,i1 h.1,i2 h.2,Bool.and_self]
theorem DV:∀ {l:List V},(∀ X∈l,Vo X)→bT l=true:=by
 intro l
 induction l with
 |nil=>intro _;rfl
 |cons X l ih =>
  intro h
  have hX:aW X=true:=by
   obtain ⟨cs,rfl,_,hc⟩:=h X fF
   simp only [aW]
   have fl2:∀ (q:List V),(∀ c∈q,fD c=true∧aW c=true)→bT q=true:=by
    intro q
    induction q with
    |nil=>intro _;rfl
    |cons c q ih2=>intro hq;simp only [bT,(hq c fF).2,ih2 (fun c hc2=>hq c (eX _ hc2)),Bool.and_self]
   exact fl2 cs hc
  simp only [bT,hX,ih (fun Y hY=>h Y (eX _ hY)),Bool.and_self]
theorem ahj {A:Nat→Nat} {l ns x xs:List V} {c wK rK:V} {m ver n:Nat} {e et:Bool}
  (hp:jO C.ops=true) (hd:jO C.defs=true) (hvars:jO vars=true) (abb:aW C.ops=true) (MH:aW C.defs=true)
  (zZ:Cc 70 [.agg [C.ops,C.defs]] (.bool true)) (lN:Cc 438 [w,jn t,vars] (.tuple [p,.int .i64 0]))
  (hv:Vw A l ns) (hok:zH ns=true) (hroom:ns.length+60≤100000) (hM:uK (Int.ofNat (ns.length+50)) C.most=true)
  (hxs:∀ X∈xs,Vo X) (hm:xs.length=m) (ht:xs[t]?=some (.agg (subs (rA A) x))) (WT:xB l.length x=true) (hinc:qo l.length c=true)
  (hw:pf w=w) (hpp:pf p=p) (hwk:(wK=.aj∧w=.aj)∨wK=KY)
  (hrun:qN (pz (TF l.length C.most (OC C t vars)) oW n (.call 83 [lZ C (sy (.gX l)) c ver wK (DL t x 0 m) et,jn t,.int .i64 C.deep]) zX bx0 emp) rK=true) (hfl:aW rK=true) :
  EvB 83 [lZ C (.list ns e) (sub (rA A) c) ver w xs et,jn t,.int .i64 C.deep] (sub (iH hv hok hroom e xs w p).ro rK):=by
 have hz:(iH hv hok hroom e xs w p).vV 0=0:=by rw [F5,CV hv.pos,hv.zero]
 have ow:(iH hv hok hroom e xs w p).ro (.tuple [.bool false])=w:=hw
 have op:(iH hv hok hroom e xs w p).ro (.tuple [.bool true,jn t,vars])=p:=hpp
 have ox:∀ u i,(iH hv hok hroom e xs w p).ro (.tuple [jn u,jn i])=pf (aO (cellsD (aO xs u)) i):=fun u i=>rfl
 have hc:sub (iH hv hok hroom e xs w p).ro c=sub (rA A) c:=by rw [qA hinc,RN hinc]
 have hx:subs (iH hv hok hroom e xs w p).ro x=subs (rA A) x:=by
  have h1:qo l.length (.agg x)=true:=by simpa [qo] using WT
  have h2:=qA (hv:=hv) (hok:=hok) (hroom:=hroom) (e:=e) (xs:=xs) (w:=w) (p:=p) h1
  rw [RN h1] at h2
  simp only [sub,V.agg.injEq] at h2
  exact h2
 have hth:=KR (ρ:=(iH hv hok hroom e xs w p).ro) (x:=x) (t:=t) hxs (by rw [hx];exact ht) (fun u i _=>ox u i) m 0 (by omega)
 have aeY:sub (iH hv hok hroom e xs w p).ro wK=w:=by
  rcases hwk with ⟨rfl,rfl⟩|rfl
  ·simp only [sub]
  ·rw [KY,sy,jf,ow]
 have hhp:sub (iH hv hok hroom e xs w p).ro (sy (.gX l))=.list ns e:=by
  rw [sy,jf]
  show V.list ((iH hv hok hroom e xs w p).G l) e=_
  rw [VG]
 have hargs:subs (iH hv hok hroom e xs w p).ro [lZ C (sy (.gX l)) c ver wK (DL t x 0 m) et,jn t,.int .i64 C.deep]=[lZ C (.list ns e) (sub (rA A) c) ver w xs et,jn t,.int .i64 C.deep]:=by
  simp only [lZ,subs,sub,jD _ hp,jD _ hd,hhp,hc,aeY,hth,List.drop_zero,jn]
 have aID:bT [lZ C (.list ns e) (sub (rA A) c) ver w xs et,jn t,.int .i64 C.deep]=true:=by
  have f1:=(wS hok).2
  have f2:aW (sub (rA A) c)=true:=by
   rw [←hc]
   refine uZ c ?_
   exact Ef c hinc
  have f3:aW w=true:=by rw [←hw];exact wH w
  have f4:bT xs=true:=by
   exact DV hxs
  simp only [bT,lZ,aW,abb,MH,f1,f2,f3,f4,jn,Bool.and_self]
 have:=evK (iH hv hok hroom e xs w p) (k0:=l.length) (M:=C.most) (QW:=OC C t vars) Dv hz hM (aew hp hd hvars zZ lN ow op) hrun (by rw [hargs];exact aID) (uZ rK hfl)
 rw [hargs] at this
 exact this
end
section
open Go Go.RowKit
noncomputable section
def zl:V:=.list [jn 0] false
def runK (C:Cst) (t:Nat) (s:Ks):jw:=pz (TF s.l.length C.most (OC C t zl)) oW 1000000 (.call 83 (axf C t s)) zX bx0 emp
def goK (C:Cst) (t:Nat) (s:Ks):V:=match runK C t s with|.val v _=>v|_=>.undef
def nx (C:Cst) (t:Nat) (s:Ks):Ks:=tidy (ayI t (goK C t s))
def rO:List V→List V→Bool
 |[],_=>true
 |v::l,l2=>match l2 with|w::l2=>(l9 v w||Hz v)&&(!(xC v)||xC w)&&rO l l2|[]=>false
def ab8 (L:Nat):List V→Bool
 |[]=>true
 |v::l=>(xC v||(HY v&&qo L v))&&ab8 L l
def fewer:List V→List V→Bool
 |[],_=>true
 |v::l,l2=>match l2 with|w::l2=>(xC v||l9 v w)&&fewer l l2|[]=>false
def aaY (ev:V):Bool:=match ev with
 |.agg l=>(match l with
  |[a,b,c]=>(match lg a with
   |some k=>(match lg b with
    |some _=>(match lg c with
     |some _=>!(Nat.beq k 3)&&!(Nat.beq k 4)&&!(Nat.beq k 5)
     |none=>false)
    |none=>false)
   |none=>false)
  |_=>false)
 |_=>false
end
end
section
open Go Go.RowKit
theorem qg:∀ {l l2:List V},rO l l2=true→l.length≤l2.length∧∀ (j:Nat) (v w:V),l[j]?=some v→l2[j]?=some w→(v=w∨Hz v=true)∧(xC v=true→xC w=true)
 |[],l2,_=>⟨by simp,fun j v w h=>by simp at h⟩
 |v::l,[],h=>by simp [rO] at h
 |v::l,w::l2,h=>by
  simp only [rO,au,gu,Bool.not_eq_true'] at h
  obtain ⟨h1,h2⟩:=qg h.2
  refine ⟨by simpa using h1,fun j=>?_⟩
  cases j with
  |zero =>
   intro a b ha hb
   simp at ha hb
   subst ha;subst hb
   refine ⟨?_,fun hu=>?_⟩
   ·rcases h.1.1 with h3|h3
    ·exact .inl (jS h3)
    ·exact .inr h3
   ·rcases h.1.2 with h3|h3
    ·rw [hu] at h3;cases h3
    ·exact h3
  |succ j=>intro a b ha hb;exact h2 j a b (by simpa using ha) (by simpa using hb)
theorem Ti {L:Nat}:∀ {l:List V},ab8 L l=true→∀ (j:Nat) (v:V),l[j]?=some v→xC v=false→HY v=true∧qo L v=true
 |[],_,j,v,h,_=>by simp at h
 |w::l,h,j,v,hj,hu=>by
  simp only [ab8,au,gu] at h
  cases j with
  |zero =>
   simp at hj
   subst hj
   rcases h.1 with h3|h3
   ·rw [hu] at h3;cases h3
   ·exact h3
  |succ j=>exact Ti h.2 j v (by simpa using hj) hu
theorem FH:∀ {l l2:List V},fewer l l2=true→∀ (j:Nat) (v:V),l[j]?=some v→xC v=false→l2[j]?=some v
 |[],l2,_,j,v,h,_=>by simp at h
 |v::l,[],h,_,_,_,_=>by simp [fewer] at h
 |v::l,w::l2,h,j,a,ha,hu=>by
  simp only [fewer,au,gu] at h
  cases j with
  |zero =>
   simp at ha
   subst ha
   rcases h.1 with h3|h3
   ·rw [hu] at h3;cases h3
   ·simp [jS h3]
  |succ j=>simpa using FH h.2 j a (by simpa using ha) hu
theorem Nu (T:Th):∀ (σ:List Nat) (l ns:List V) (j s:Nat),σ.Nodup→σ[j]?=some s→(∀ v,l[j]?=some v→xC v=true)→(T.wW σ l ns)[s]?=ns[s]?
 |[],l,ns,j,s,_,h,_=>by simp at h
 |t::σ,[],ns,j,s,_,_,_=>by simp [Th.wW]
 |t::σ,x::l,ns,0,s,hd,h1,h2=>by
  simp at h1
  subst h1
  have hx:=h2 x rfl
  simp only [Th.wW,hx,cond_true]
  exact Iq T σ l ns t (List.nodup_cons.1 hd).1
 |t::σ,x::l,ns,j+1,s,hd,h1,h2=>by
  simp only [List.getElem?_cons_succ] at h1 h2
  have hne:t≠s:=by
   intro he;subst he
   exact (List.nodup_cons.1 hd).1 (List.mem_of_getElem? h1)
  simp only [Th.wW]
  rw [Nu T σ l _ j s (List.nodup_cons.1 hd).2 h1 h2]
  cases xC x with
  |true=>rfl
  |false=>simp [hne]
variable {A:Nat→Nat} {l ns:List V}
section
variable (hv:Vw A l ns) (hok:zH ns=true) (hroom:ns.length+60≤100000) (e:Bool) (xs:List V) (w p:V)
theorem amG {i j L2:Nat} (hi:i<L2) (hj:j<L2) (h:DW A l.length ns.length i=DW A l.length ns.length j) (hv:Vw A l ns):i=j:=by
 unfold DW at h
 split at h<;>split at h
 ·rename_i h1 h2;exact hv.inj i j h1 h2 h
 ·rename_i h1 h2;have:=hv.low i h1;omega
 ·rename_i h1 h2;have:=hv.low j h2;omega
 ·rename_i h1 h2;omega
theorem aqY {l2:List V} (hs:rO l l2=true) (hb:ab8 l2.length l2=true):Vw (DW A l.length ns.length) l2 ((iH hv hok hroom e xs w p).G l2) where
 zero:=by rw [CV hv.pos,hv.zero]
 pos:=by have:=(qg hs).1;have:=hv.pos;omega
 inj i j hi hj h:=amG hi hj h hv
 low j hj:=by
  have h1:=(qg hs).1
  have h2:=DU (iH hv hok hroom e xs w p) l2
  rw [Dv] at h2
  have h3:(iH hv hok hroom e xs w p).ns=ns:=rfl
  rw [h3] at h2
  rw [h2]
  unfold DW
  split
  ·rename_i h;have:=hv.low j h;omega
  ·omega
 node j v h hu:=by
  obtain ⟨k1,k2⟩:=Ti hb j v h hu
  refine ⟨k1,k2,?_⟩
  have h1:=ari (iH hv hok hroom e xs w p) h hu
  rw [F5,Jt k1] at h1
  exact h1
theorem amD {l2:List V} (hs:rO l l2=true) {i:Nat} (hi:i<ns.length) (hq:∀ (j:Nat) (v:V),j<l.length→A j=i→l[j]?=some v→xC v=false→Hz v=false):((iH hv hok hroom e xs w p).G l2)[i]?=ns[i]?:=by
 have hlen:(iH hv hok hroom e xs w p).ns=ns:=rfl
 unfold Th.G
 rw [List.getElem?_append_left (by rw [mW,hlen];exact hi),hlen]
 by_cases hmem:i∈(iH hv hok hroom e xs w p).σ
 ·obtain ⟨j,hj⟩:=List.getElem?_of_mem hmem
  have hjl:j<l.length:=by
   have h1:j<(iH hv hok hroom e xs w p).σ.length:=by
    rcases Nat.lt_or_ge j (iH hv hok hroom e xs w p).σ.length with h|h
    ·exact h
    ·rw [gI h] at hj;cases hj
   rwa [Dv] at h1
  have hA:A j=i:=by
   have:(iH hv hok hroom e xs w p).σ[j]?=some (A j):=by
    show ((List.range l.length).map A)[j]?=_
    rw [List.getElem?_map,List.getElem?_range hjl];rfl
   rw [this] at hj;exact gy hj
  have hl2:j<l2.length:=by have:=(qg hs).1;omega
  have g1:l[j]?=some l[j]:=fM hjl
  have g2:l2[j]?=some l2[j]:=fM hl2
  obtain ⟨k1,k2⟩:=(qg hs).2 j _ _ g1 g2
  cases hu:xC l2[j] with
  |true=>exact Nu _ _ _ _ j i (iH hv hok hroom e xs w p).nodup hj (fun v hv2=>by rw [g2] at hv2;cases hv2;exact hu)
  |false =>
   rw [PN _ _ _ _ j i _ (iH hv hok hroom e xs w p).nodup (by intro s hs2;exact (iH hv hok hroom e xs w p).low s hs2) hj g2 hu]
   have hu1:xC l[j]=false:=by
    cases hq2:xC l[j] with
    |true=>rw [k2 hq2] at hu;cases hu
    |false=>rfl
   have h3:=hq j _ hjl hA g1 hu1
   rcases k1 with k1|k1
   ·rw [←k1]
    obtain ⟨q1,q2,q3⟩:=hv.node j _ g1 hu1
    rw [Jt q1,RN q2,←q3,hA]
   ·rw [h3] at k1;cases k1
 ·exact Iq _ _ _ _ _ hmem
theorem al9 {l2 k:List V} {B:Nat→Nat} (hs:rO l l2=true) (hB:Vw B k ns) (hdis:∀ (i j:Nat) (v u:V),l[i]?=some v→xC v=false→k[j]?=some u→xC u=false→A i=B j→Hz v=false):Vw B k ((iH hv hok hroom e xs w p).G l2) where
 zero:=hB.zero
 pos:=hB.pos
 inj:=hB.inj
 low j hj:=by
  have h2:=DU (iH hv hok hroom e xs w p) l2
  have h3:(iH hv hok hroom e xs w p).ns=ns:=rfl
  rw [h3] at h2
  have:=hB.low j hj
  omega
 node j u h hu:=by
  obtain ⟨k1,k2,k3⟩:=hB.node j u h hu
  have hj:j<k.length:=by
   rcases Nat.lt_or_ge j k.length with h1|h1
   ·exact h1
   ·rw [gI h1] at h;cases h
  refine ⟨k1,k2,?_⟩
  rw [amD hv hok hroom e xs w p hs (hB.low j hj) (fun i v _ hA hv2 hu2=>hdis i j v u hv2 hu2 h hu hA)]
  exact k3
end
theorem Vk {l3:List V} (hv:Vw A l ns) (hf:fewer l3 l=true) (hlen:l3.length=l.length):Vw A l3 ns where
 zero:=hv.zero
 pos:=by rw [hlen];exact hv.pos
 inj i j hi hj:=hv.inj i j (by omega) (by omega)
 low j hj:=hv.low j (by omega)
 node j v h hu:=by
  have:=hv.node j v (FH hf j v h hu) hu
  rw [hlen]
  exact this
def Dis (A:Nat→Nat) (l:List V) (B:Nat→Nat) (k:List V):Prop:=∀ (i j:Nat) (v u:V),l[i]?=some v→xC v=false→k[j]?=some u→xC u=false→A i=B j→Hz v=false∧Hz u=false
theorem Dis.symm {B:Nat→Nat} {k:List V} (h:Dis A l B k):Dis B k A l:=fun i j v u h1 h2 h3 h4 h5=>(h j i u v h3 h4 h1 h2 h5.symm).symm
theorem ad9 {B:Nat→Nat} {k l2 l3:List V} (hv:Vw A l ns) (hB:Vw B k ns) (hd:Dis A l B k) (hs:rO l l2=true) (hf:fewer l3 l2=true):Dis (DW A l.length ns.length) l3 B k:=by
 intro i j v u h1 h2 h3 h4 h5
 have g1:=FH hf i v h1 h2
 have hj:j<k.length:=by
  rcases Nat.lt_or_ge j k.length with h|h
  ·exact h
  ·rw [gI h] at h3;cases h3
 have hlow:=hB.low j hj
 have hi:i<l.length:=by
  rcases Nat.lt_or_ge i l.length with h|h
  ·exact h
  ·exfalso
   have:DW A l.length ns.length i=ns.length+(i-l.length):=by simp [DW];omega
   omega
 have g0:l[i]?=some l[i]:=fM hi
 obtain ⟨k1,k2⟩:=(qg hs).2 i _ _ g0 g1
 have hu0:xC l[i]=false:=by
  cases hq:xC l[i] with
  |true=>rw [k2 hq] at h2;cases h2
  |false=>rfl
 rw [CV hi] at h5
 obtain ⟨d1,d2⟩:=hd i j _ u g0 hu0 h3 h4 h5
 rcases k1 with k1|k1
 ·rw [←k1];exact ⟨d1,d2⟩
 ·rw [d1] at k1;cases k1
end
section
open Go Go.RowKit
def wv:List Nat→V
 |[]=>.aj
 |t::ts=>.list ((t::ts).map fun t=>.agg [jn t,.list [jn 0] false]) false
theorem CQ (ts:List Nat):pf (wv ts)=wv ts:=by
 have:∀ ts:List Nat,bT (ts.map fun t=>V.agg [jn t,.list [jn 0] false])=true:=by
  intro ts
  induction ts with
  |nil=>rfl
  |cons t ts ih =>
   rw [List.map_cons]
   show (aW (V.agg [jn t,.list [jn 0] false])&&bT _)=true
   rw [ih];rfl
 cases ts with
 |nil=>rfl
 |cons t ts=>exact Us rfl (by simpa only [wv,aW] using this (t::ts))
def kX (v:V):Bool:=match v with
 |.int _ _=>true
 |.aj=>true
 |.list _ _=>true
 |.iface t _=>Nat.beq t 1000000
 |_=>false
def qC:List V→Bool
 |[]=>true
 |v::vs=>kX v&&(aW v&&qC vs)
theorem vM {ρ:V→V} [Good ρ]:∀ {l:List V},qC l=true→∀ c∈subs ρ l,fD c=true∧aW c=true
 |[],_,c,hc=>by simp [subs] at hc
 |v::l,h,c,hc=>by
  simp only [qC,au] at h
  simp only [subs,List.mem_cons] at hc
  rcases hc with rfl|hc
  ·refine ⟨?_,uZ v h.2.1⟩
   cases v<;>first|(cases h.1;done)|rfl|skip
   rename_i t p
   have ht:=aJ (show Nat.beq t 1000000=true from h.1)
   subst ht
   rw [jf]
   exact Good.plain p
  ·exact vM h.2.2 c hc
structure Res where
 x:List V
 l:List V
 hp:V
 c:V
 w:V
 ev:V
 more:List V
structure Y6 (C:Cst) (t m:Nat) (s:Ks) (et:Bool) (wK:V) (r:Res):Prop where
 run:qN (pz (TF s.l.length C.most (OC C t zl)) oW 1000000 (.call 83 [lZ C (sy (.gX s.l)) s.c 0 wK (DL t s.x 0 m) et,jn t,.int .i64 C.deep]) zX bx0 emp) (.tuple [lZ C r.hp r.c 0 r.w (DL t r.x 0 m++r.more) false,r.ev])=true
 flat:aW (.tuple [lZ C r.hp r.c 0 r.w (DL t r.x 0 m++r.more) false,r.ev])=true
 same:rO s.l r.l=true
 nodes:ab8 r.l.length r.l=true
 grow:r.l.length≤s.l.length+3
 inx:xB r.l.length r.x=true
 inc:qo r.l.length r.c=true
 cells:qC r.x=true
 eleven:r.x.length=11
 hp:(r.hp=sy (.gX s.l)∧r.l=s.l)∨∃ e,r.hp=sy (.list r.l e)
 ev:jO r.ev=true∧aaY r.ev=true
 inm:xB r.l.length r.more=true
instance aIs (A:Nat→Nat):Good (rA A) where
 plain v:=by
  cases v<;>first|rfl|skip
  rename_i k n
  cases n<;>rfl
 flat v:=by
  cases v<;>first|rfl|skip
  rename_i k n
  cases n<;>rfl
theorem GR:∀ (l:List V) (i j:Nat) (x:V),i≠j→aO (l.set i x) j=aO l j
 |[],i,j,x,_=>by simp
 |y::l,0,0,x,h=>absurd rfl h
 |y::l,0,j+1,x,_=>by simp only [List.set_cons_zero,iL]
 |y::l,i+1,0,x,_=>by simp only [List.set_cons_succ,kF]
 |y::l,i+1,j+1,x,h=>by simp only [List.set_cons_succ,iL];exact GR l i j x (by omega)
structure At (A:Nat→Nat) (s:Ks) (ns:List V) (X c:V):Prop where
 vw:Vw A s.l ns
 x:X=.agg (subs (rA A) s.x)
 inx:xB s.l.length s.x=true
 inc:qo s.l.length s.c=true
 c:sub (rA A) s.c=c
variable {C:Cst} {t m:Nat} {s:Ks} {et:Bool} {wK w p:V} {r:Res} {ns xs:List V} {e:Bool} {A:Nat→Nat} {X c:V}
structure Qs (C:Cst):Prop where
 ops:jO C.ops=true
 defs:jO C.defs=true
 abb:aW C.ops=true
 MH:aW C.defs=true
 chk:Cc 70 [.agg [C.ops,C.defs]] (.bool true)
theorem ayl {A B:Nat→Nat} {L:Nat} (h:∀ j,j<L→A j=B j) {v:V} (hv:qo L v=true):sub (rA A) v=sub (rA B) v :=
 Iy (L:=L) (fun j hj=>by show V.int .i64 (.ofNat (A j))=V.int .i64 (.ofNat (B j));rw [h j hj]) v hv
theorem mZ {l:List V} {i:Nat} {v:V} (h:l[i]?=some v):i<l.length:=by
 rcases Nat.lt_or_ge i l.length with h1|h1
 ·exact h1
 ·rw [gI h1] at h;cases h
theorem aho (hC:Qs C) (hf:Y6 C t m s et wK r) (lN:Cc 438 [w,jn t,zl] (.tuple [p,.int .i64 0]))
  (hok:zH ns=true) (hroom:ns.length+60≤100000) (hM:uK (Int.ofNat (ns.length+50)) C.most=true)
  (hxs:∀ X∈xs,Vo X) (hm:xs.length=m) (htm:xs[t]?=some X) (ha:At A s ns X c) (hw:pf w=w) (hpp:pf p=p) (hwk:(wK=.aj∧w=.aj)∨wK=KY)
  {w2:V} (hr:(r.w=wK∧w2=w)∨(r.w=sy (.tuple [.bool true,jn t,zl])∧w2=p)) :
  ∃ (uM:List V) (e2:Bool) (A2:Nat→Nat),(∀ j,j<s.l.length→A2 j=A j) ∧
   EvB 83 [lZ C (.list ns e) c 0 w xs et,jn t,.int .i64 C.deep] (.tuple [lZ C (.list uM e2) (sub (rA A2) r.c) 0 w2 (xs.set t (.agg (subs (rA A2) r.x))++subs (rA A2) r.more) false,r.ev]) ∧
   zH uM=true∧uM.length=ns.length+(r.l.length-s.l.length)∧Vo (.agg (subs (rA A2) r.x))∧Vw A2 r.l uM ∧
   (∀ (B:Nat→Nat) (k:List V),Vw B k ns→Dis A s.l B k→Vw B k uM∧∀ l3,fewer l3 r.l=true→Dis A2 l3 B k):=by
 have hv:=ha.vw
 have htl:=mZ htm
 have hx0:xs[t]?=some (.agg (subs (rA A) s.x)):=by rw [htm,ha.x]
 have ans:=ahj (e:=e) (et:=et) (ver:=0) (m:=m) hC.ops hC.defs (show jO zl=true from rfl) hC.abb hC.MH hC.chk lN hv hok hroom hM hxs hm hx0 ha.inx ha.inc hw hpp hwk hf.run hf.flat
 rw [ha.c] at ans
 have hA2:∀ j,j<s.l.length→DW A s.l.length ns.length j=A j:=fun j hj=>CV hj
 have hc2:sub (iH hv hok hroom e xs w p).ro r.c=sub (rA (DW A s.l.length ns.length)) r.c:=qA hf.inc
 have hx2:subs (iH hv hok hroom e xs w p).ro r.x=subs (rA (DW A s.l.length ns.length)) r.x:=by
  have h1:qo r.l.length (.agg r.x)=true:=by simpa [qo] using hf.inx
  have h2:=qA (hv:=hv) (hok:=hok) (hroom:=hroom) (e:=e) (xs:=xs) (w:=w) (p:=p) h1
  simp only [sub,V.agg.injEq] at h2
  exact h2
 have hmo:subs (iH hv hok hroom e xs w p).ro r.more=subs (rA (DW A s.l.length ns.length)) r.more:=by
  have h1:qo r.l.length (.agg r.more)=true:=by simpa [qo] using hf.inm
  have h2:=qA (hv:=hv) (hok:=hok) (hroom:=hroom) (e:=e) (xs:=xs) (w:=w) (p:=p) h1
  simp only [sub,V.agg.injEq] at h2
  exact h2
 have abn:Vo (.agg (subs (rA (DW A s.l.length ns.length)) r.x)):=⟨_,rfl,by rw [iy];exact hf.eleven,vM hf.cells⟩
 have aI6:∀ X∈xs.set t (.agg (subs (rA (DW A s.l.length ns.length)) r.x)),Vo X:=fun X hX=>by
  rcases List.mem_or_eq_of_mem_set hX with h|h
  ·exact hxs X h
  ·subst h;exact abn
 have hth:=KR (ρ:=(iH hv hok hroom e xs w p).ro) (x:=r.x) (t:=t) aI6 (by rw [hx2];simp [htl]) (fun u i hu=>by
  rw [GR _ _ _ _ (Ne.symm hu)];rfl) m 0 (by simp [hm])
 rw [List.drop_zero] at hth
 have hev:sub (iH hv hok hroom e xs w p).ro r.ev=r.ev:=jD _ hf.ev.1
 have hw2:sub (iH hv hok hroom e xs w p).ro r.w=w2:=by
  rcases hr with ⟨h1,rfl⟩|⟨h1,rfl⟩
  ·rw [h1]
   rcases hwk with ⟨rfl,rfl⟩|rfl
   ·simp only [sub]
   ·rw [KY,sy,jf];exact hw
  ·rw [h1,sy,jf];exact hpp
 have hh:∃ e2,sub (iH hv hok hroom e xs w p).ro r.hp=.list ((iH hv hok hroom e xs w p).G r.l) e2:=by
  rcases hf.hp with ⟨h1,h2⟩|⟨e2,h1⟩
  ·rw [h1,h2,sy,jf];exact ⟨e,rfl⟩
  ·rw [h1,sy,jf];exact ⟨e2,rfl⟩
 obtain ⟨e2,hh⟩:=hh
 have hG:=DU (iH hv hok hroom e xs w p) r.l
 rw [Dv] at hG
 refine ⟨(iH hv hok hroom e xs w p).G r.l,e2,DW A s.l.length ns.length,hA2,?_,VF _ _,hG,abn,aqY hv hok hroom e xs w p hf.same hf.nodes,fun B k hB hd=>⟨al9 hv hok hroom e xs w p hf.same hB fun i j v u h1 h2 h3 h4 h5=>(hd i j v u h1 h2 h3 h4 h5).1,fun l3 h3=>ad9 hv hB hd hf.same h3⟩⟩
 have hfin:sub (iH hv hok hroom e xs w p).ro (.tuple [lZ C r.hp r.c 0 r.w (DL t r.x 0 m++r.more) false,r.ev])=.tuple [lZ C (.list ((iH hv hok hroom e xs w p).G r.l) e2) (sub (rA (DW A s.l.length ns.length)) r.c) 0 w2 (xs.set t (.agg (subs (rA (DW A s.l.length ns.length)) r.x))++subs (rA (DW A s.l.length ns.length)) r.more) false,r.ev]:=by
  simp only [lZ,sub,subs,qm,jD _ hC.ops,jD _ hC.defs,hh,hc2,hw2,hth,hmo,hev,jn]
 rw [hfin] at ans
 exact ans
end
section
open Go Go.RowKit
def tot:Nat→(Nat→Nat)→Nat
 |0,P=>P 0
 |n+1,P=>P (n+1)+tot n P
def upd (P:Nat→Nat) (t u:Nat):Nat:=if u=t then P t+1 else P u
theorem upd_same (P:Nat→Nat) (t:Nat):upd P t t=P t+1:=by simp [upd]
theorem upd_ne {P:Nat→Nat} {t u:Nat} (h:u≠t):upd P t u=P u:=by simp [upd,h]
theorem jk {a b:Nat} (h:¬a=b):Nat.beq a b=false:=by
 cases hb:Nat.beq a b with
 |false=>rfl
 |true=>exact absurd (aJ hb) h
theorem aal:∀ {n t:Nat} {P:Nat→Nat},n<t→tot n (upd P t)=tot n P
 |0,t,P,h=>by simp only [tot];exact upd_ne (by omega)
 |n+1,t,P,h=>by simp only [tot];rw [upd_ne (by omega),aal (by omega)]
theorem Qn:∀ {n t:Nat} {P:Nat→Nat},t≤n→tot n (upd P t)=tot n P+1
 |0,t,P,h=>by
  have:t=0:=by omega
  subst this
  simp only [tot,upd_same]
 |n+1,t,P,h=>by
  simp only [tot]
  by_cases ht:t=n+1
  ·subst ht;rw [upd_same,aal (by omega)];omega
  ·rw [upd_ne (Ne.symm ht),Qn (by omega)];omega
theorem Qm:∀ {n:Nat} {P K:Nat→Nat},(∀ t,t≤n→P t≤K t)→tot n P≤tot n K
 |0,P,K,h=>h 0 (bC _)
 |n+1,P,K,h=>by
  have h1:=h (n+1) (bC _)
  have h2:=Qm (n:=n) fun t ht=>h t (by omega)
  simp only [tot];omega
theorem aak:∀ {n:Nat} {P K:Nat→Nat},(∀ t,t≤n→P t≤K t)→tot n P=tot n K→∀ t,t≤n→P t=K t
 |0,P,K,h,e,t,ht=>by
                have:t=0:=by omega
                subst this;exact e
 |n+1,P,K,h,e,t,ht=>by
  have h1:=h (n+1) (bC _)
  have h2:=Qm (n:=n) (P:=P) (K:=K) fun t ht=>h t (by omega)
  simp only [tot] at e
  by_cases hq:t=n+1
  ·subst hq;omega
  ·exact aak (n:=n) (fun t ht=>h t (by omega)) (by omega) t (by omega)
def YB:List V→List V→Bool
 |[],_=>true
 |v::l,l2=>match l2 with|w::l2=>(xC v||xC w||(!(Hz v)&&!(Hz w)))&&YB l l2|[]=>true
theorem UH:∀ {l l2:List V},YB l l2=true→∀ (j:Nat) (v w:V),l[j]?=some v→xC v=false→l2[j]?=some w→xC w=false→Hz v=false∧Hz w=false
 |[],l2,_,j,v,w,h,_,_,_=>by simp at h
 |v::l,[],_,j,a,b,_,_,h,_=>by simp at h
 |v::l,w::l2,h,j,a,b,ha,hua,hb,hub=>by
  simp only [YB,au,gu,Bool.not_eq_true'] at h
  cases j with
  |zero =>
   simp at ha hb
   subst ha;subst hb
   rcases h.1 with h1|h1
   ·rcases h1 with h1|h1
    ·rw [hua] at h1;cases h1
    ·rw [hub] at h1;cases h1
   ·exact h1
  |succ j=>exact UH h.2 j a b (by simpa using ha) hua (by simpa using hb) hub
structure Rws where
 C:Cst
 n:Nat
 R:Nat→Nat→Ks
 K:Nat→Nat
 mn:Nat→Nat
 res:Nat→Nat→Res
 wk:Nat→Nat→V
structure y7 (Y:Rws):Prop where
 cst:Qs Y.C
 most:uK (Int.ofNat (1+3*tot Y.n Y.K+50)) Y.C.most=true
 room:1+3*tot Y.n Y.K+60≤100000
 JZ:∀ (ts:List Nat) (t:Nat),ts.Nodup→(∀ u∈ts,u≤Y.n)→t≤Y.n→t∉ts→Cc 438 [wv ts,jn t,zl] (.tuple [wv (ts++[t]),.int .i64 0])
 st:∀ t k m,t≤Y.n→k<Y.K t→(t=0→m=Y.mn k)→(t≠0→t<m∧m≤Y.n+1)→Y6 Y.C t m (Y.R t k) (Nat.beq t 0&&Nat.beq k 0) (Y.wk t k) (Y.res t k)
 nx:∀ t k,t≤Y.n→k<Y.K t→(Y.R t (k+1)).x=(Y.res t k).x∧(Y.R t (k+1)).c=(Y.res t k).c∧fewer (Y.R t (k+1)).l (Y.res t k).l=true∧(Y.R t (k+1)).l.length=(Y.res t k).l.length
 wk:∀ t k,t≤Y.n→k<Y.K t→Y.wk t k=KY∨(Y.wk t k=.aj∧t=0∧Y.mn k=1)
 wr:∀ t k,t≤Y.n→k<Y.K t→((Y.res t k).w=Y.wk t k∧k+1≠Y.K t)∨((Y.res t k).w=sy (.tuple [.bool true,jn t,zl])∧k+1=Y.K t)
 kid:∀ t k,t≤Y.n→t≠0→k<Y.K t→(Y.res t k).more=[]∧(Y.res t k).c=(Y.R t k).c
 main:∀ k,k<Y.K 0→(Y.mn k≠1→(Y.res 0 k).c=(Y.R 0 k).c) ∧
  ((Y.mn (k+1)=Y.mn k∧(Y.res 0 k).more=[]) ∨
   (Y.mn (k+1)=Y.mn k+1∧Y.mn k≤Y.n∧(Y.res 0 k).more=[.agg (Y.R (Y.mn k) 0).x]∧(Y.R (Y.mn k) 0).c=(Y.res 0 k).c∧fewer (Y.R (Y.mn k) 0).l (Y.res 0 k).l=true∧(Y.R (Y.mn k) 0).l.length=(Y.res 0 k).l.length ∧
    YB (Y.R 0 (k+1)).l (Y.R (Y.mn k) 0).l=true∧qC (Y.R (Y.mn k) 0).x=true∧(Y.R (Y.mn k) 0).x.length=11∧0<Y.K (Y.mn k)))
 mk0:Y.mn 0=1
 mkn:∀ k,k≤Y.K 0→Y.mn k≤Y.n+1
 mkK:Y.mn (Y.K 0)=Y.n+1
 k0:0<Y.K 0
structure Og (Y:Rws) (P:Nat→Nat) (ts:List Nat) (ns xs:List V) (A:Nat→Nat→Nat) (c:V):Prop where
 gn:zH ns=true
 len:ns.length≤1+3*tot Y.n P
 m:xs.length=Y.mn (P 0)
 thc:∀ X∈xs,Vo X
 le:∀ t,t≤Y.n→P t≤Y.K t
 zero:∀ t,xs.length≤t→P t=0
 ats:∀ t,t<xs.length→∃ X,xs[t]?=some X∧At (A t) (Y.R t (P t)) ns X c
 dis:∀ t u,t<xs.length→u<xs.length→t≠u→Dis (A t) (Y.R t (P t)).l (A u) (Y.R u (P u)).l
 nodup:ts.Nodup
 parked:∀ t,t∈ts↔t<xs.length∧P t=Y.K t
def Ib (Y:Rws) (P:Nat→Nat) (ts:List Nat) (ns:List V) (e:Bool) (xs:List V) (c:V):V:=lZ Y.C (.list ns e) c 0 (wv ts) xs (Nat.beq (P 0) 0)
def KT (Y:Rws) (P:Nat→Nat) (ts:List Nat) (t:Nat):List Nat:=if P t+1=Y.K t then ts++[t] else ts
variable {Y:Rws} {P:Nat→Nat} {ts:List Nat} {ns xs:List V} {A:Nat→Nat→Nat} {c:V} {e:Bool} {t:Nat}
theorem ae6 (hY:y7 Y) (hI:Og Y P ts ns xs A c) (ht:t<xs.length) (hk:P t<Y.K t) :
  ∃ uM e2 xs2 A2 c2,EvB 83 [Ib Y P ts ns e xs c,jn t,.int .i64 Y.C.deep] (.tuple [Ib Y (upd P t) (KT Y P ts t) uM e2 xs2 c2,(Y.res t (P t)).ev]) ∧
   Og Y (upd P t) (KT Y P ts t) uM xs2 A2 c2∧aaY (Y.res t (P t)).ev=true:=by
 have hle0:P 0≤Y.K 0:=hI.le 0 (Nat.zero_le _)
 have hxn:xs.length≤Y.n+1:=by rw [hI.m];exact hY.mkn _ hle0
 have htn:t≤Y.n:=by omega
 have htot:=Qm hI.le
 have aBh:tot Y.n (upd P t)=tot Y.n P+1:=Qn htn
 obtain ⟨X,hX,hA⟩:=hI.ats t ht
 have aeS:t∉ts:=fun h=>by have:=(hI.parked t).1 h;omega
 have hts:∀ u∈ts,u≤Y.n:=fun u hu=>by have:=((hI.parked u).1 hu).1;omega
 have hf:=hY.st t (P t) xs.length htn hk (fun h=>by subst h;exact hI.m) (fun h=>⟨ht,hxn⟩)
 have het:(Nat.beq t 0&&Nat.beq (P t) 0)=Nat.beq (P 0) 0:=by
  by_cases h0:t=0
  ·subst h0;rfl
  ·have h1:P 0≠0:=by
    intro hq
    have:=hI.m
    rw [hq,hY.mk0] at this
    omega
   have e1:Nat.beq t 0=false:=jk h0
   have e2:Nat.beq (P 0) 0=false:=jk h1
   rw [e1,e2];rfl
 rw [het] at hf
 have lN:=hY.JZ ts t hI.nodup hts htn aeS
 have hroom:ns.length+60≤100000:=by have:=hI.len;have:=hY.room;omega
 have hM:uK (Int.ofNat (ns.length+50)) Y.C.most=true:=by
  have h1:=hY.most
  have h2:=hI.len
  rw [sO] at h1 ⊢
  simp only [decide_eq_true_eq,Int.ofNat_eq_natCast] at h1 ⊢
  omega
 have hwk:(Y.wk t (P t)=.aj∧wv ts=.aj)∨Y.wk t (P t)=KY:=by
  rcases hY.wk t (P t) htn hk with h|⟨h1,h2,h3⟩
  ·exact .inr h
  ·refine .inl ⟨h1,?_⟩
   subst h2
   cases hq:ts with
   |nil=>rfl
   |cons u us =>
    exfalso
    have hu:u∈ts:=by rw [hq];exact fF
    have h4:=(hI.parked u).1 hu
    have h5:=hI.m
    rw [h3] at h5
    have:u=0:=by omega
    subst this
    omega
 have hwr:((Y.res t (P t)).w=Y.wk t (P t)∧wv (KT Y P ts t)=wv ts)∨((Y.res t (P t)).w=sy (.tuple [.bool true,jn t,zl])∧wv (KT Y P ts t)=wv (ts++[t])):=by
  rcases hY.wr t (P t) htn hk with ⟨h1,h2⟩|⟨h1,h2⟩
  ·exact .inl ⟨h1,by simp [KT,h2]⟩
  ·exact .inr ⟨h1,by simp [KT,h2]⟩
 obtain ⟨uM,e2,A2,hA2,hans,hgn,hlen,abn,hvw,hoth⟩:=aho (e:=e) hY.cst hf lN hI.gn hroom hM hI.thc rfl hX hA (CQ _) (CQ _) hwk hwr
 obtain ⟨n1,n2,n3,n4⟩:=hY.nx t (P t) htn hk
 have hgrow:=hf.grow
 have aI4:Vw A2 (Y.R t (P t+1)).l uM:=Vk hvw n3 n4
 have hP0:Nat.beq (upd P t 0) 0=false:=by
  by_cases h0:t=0
  ·subst h0;rw [upd_same];rfl
  ·rw [upd_ne (Ne.symm h0)]
   have h1:P 0≠0:=by
    intro hq
    have:=hI.m
    rw [hq,hY.mk0] at this
    omega
   exact jk h1
 have hc2:1<xs.length→sub (rA A2) (Y.res t (P t)).c=c:=fun hm=>by
  have hcc:(Y.res t (P t)).c=(Y.R t (P t)).c:=by
   by_cases h0:t=0
   ·subst h0
    refine (hY.main (P 0) hk).1 ?_
    rw [←hI.m];omega
   ·exact (hY.kid t (P t) htn h0 hk).2
  rw [hcc,ayl (L:=(Y.R t (P t)).l.length) hA2 hA.inc,hA.c]
 have hAt:At A2 (Y.R t (P t+1)) uM (.agg (subs (rA A2) (Y.res t (P t)).x)) (sub (rA A2) (Y.res t (P t)).c) :=
  ⟨aI4,by rw [n1],by rw [n1,n4];exact hf.inx,by rw [n2,n4];exact hf.inc,by rw [n2]⟩
 have Zn:∀ (L:Nat),xs.length≤L→(∀ u,xs.length≤u→u<L→0<Y.K u)→∀ u,u∈KT Y P ts t↔u<L∧upd P t u=Y.K u:=by
  intro L hL1 hL3 u
  have hL:t<L:=by omega
  have hold:=hI.parked u
  by_cases hut:u=t
  ·subst hut
   rw [upd_same]
   unfold KT
   by_cases hq:P u+1=Y.K u
   ·rw [if_pos hq]
    exact ⟨fun _=>⟨hL,hq⟩,fun _=>List.mem_append_right _ (List.mem_singleton.2 rfl)⟩
   ·rw [if_neg hq]
    exact ⟨fun h=>absurd h aeS,fun h=>absurd h.2 hq⟩
  ·rw [upd_ne hut]
   have hmem:u∈KT Y P ts t↔u∈ts:=by
    unfold KT
    by_cases hq:P t+1=Y.K t
    ·rw [if_pos hq]
     simp [hut]
    ·rw [if_neg hq]
   rw [hmem,hold]
   constructor
   ·rintro ⟨h1,h2⟩
    exact ⟨by omega,h2⟩
   ·rintro ⟨h1,h2⟩
    refine ⟨?_,h2⟩
    rcases Nat.lt_or_ge u xs.length with h3|h3
    ·exact h3
    ·exfalso
     have h4:=hI.zero u h3
     have h5:=hL3 u h3 h1
     omega
 have hnd:(KT Y P ts t).Nodup:=by
  unfold KT
  by_cases hq:P t+1=Y.K t
  ·rw [if_pos hq,List.nodup_append]
   exact ⟨hI.nodup,by simp,fun a ha b hb=>by simp at hb;subst hb;intro he;subst he;exact aeS ha⟩
  ·rw [if_neg hq];exact hI.nodup
 have hle:∀ u,u≤Y.n→upd P t u≤Y.K u:=fun u hu=>by
  by_cases hut:u=t
  ·subst hut;rw [upd_same];omega
  ·rw [upd_ne hut];exact hI.le u hu
 have hlen2:uM.length≤1+3*tot Y.n (upd P t):=by
  rw [hlen,aBh]
  have:=hI.len
  omega
 have aBk:∀ (xs2:List V) (u:Nat),u<xs.length→u≠t→(xs.set t (.agg (subs (rA A2) (Y.res t (P t)).x))++xs2)[u]?=xs[u]?:=by
  intro xs2 u hu hut
  rw [List.getElem?_append_left (by simpa using hu),List.getElem?_set_ne (Ne.symm hut)]
 have aBl:∀ xs2:List V,(xs.set t (.agg (subs (rA A2) (Y.res t (P t)).x))++xs2)[t]?=some (.agg (subs (rA A2) (Y.res t (P t)).x)):=by
  intro xs2
  rw [List.getElem?_append_left (by simpa using ht)]
  simp [ht]
 have aBg:∀ X∈xs.set t (.agg (subs (rA A2) (Y.res t (P t)).x)),Vo X:=fun X hX=>by
  rcases List.mem_or_eq_of_mem_set hX with h|h
  ·exact hI.thc X h
  ·subst h;exact abn
 have hother:∀ u,u<xs.length→u≠t→∃ X,xs[u]?=some X∧At (A u) (Y.R u (P u)) uM X (sub (rA A2) (Y.res t (P t)).c):=by
  intro u hu hut
  obtain ⟨X,hX,hB⟩:=hI.ats u hu
  have h1:=(hoth (A u) (Y.R u (P u)).l hB.vw (hI.dis t u ht hu (Ne.symm hut))).1
  exact ⟨X,hX,h1,hB.x,hB.inx,hB.inc,by rw [hB.c,hc2 (by omega)]⟩
 have Zm:∀ u,u<xs.length→u≠t→∀ l3,fewer l3 (Y.res t (P t)).l=true→Dis A2 l3 (A u) (Y.R u (P u)).l:=by
  intro u hu hut l3 h3
  obtain ⟨X,hX,hB⟩:=hI.ats u hu
  exact (hoth (A u) (Y.R u (P u)).l hB.vw (hI.dis t u ht hu (Ne.symm hut))).2 l3 h3
 have Nw:(Y.res t (P t)).more=[]→Y.mn (upd P t 0)=Y.mn (P 0)→∃ uM e2 xs2 A2 c2,EvB 83 [Ib Y P ts ns e xs c,jn t,.int .i64 Y.C.deep] (.tuple [Ib Y (upd P t) (KT Y P ts t) uM e2 xs2 c2,(Y.res t (P t)).ev]) ∧
   Og Y (upd P t) (KT Y P ts t) uM xs2 A2 c2∧aaY (Y.res t (P t)).ev=true:=by
  intro hmore hmn
  refine ⟨uM,e2,xs.set t (.agg (subs (rA A2) (Y.res t (P t)).x)),fun u=>if u=t then A2 else A u,sub (rA A2) (Y.res t (P t)).c,?_,?_,hf.ev.2⟩
  ·rw [hmore,yh,List.append_nil] at hans
   unfold Ib
   rw [hP0]
   exact hans
  ·have hL:(xs.set t (.agg (subs (rA A2) (Y.res t (P t)).x))).length=xs.length:=by simp
   constructor
   ·exact hgn
   ·exact hlen2
   ·rw [hL,hmn];exact hI.m
   ·exact aBg
   ·exact hle
   ·intro u hu
    rw [hL] at hu
    rw [upd_ne (by omega)]
    exact hI.zero u hu
   ·intro u hu
    rw [hL] at hu
    by_cases hut:u=t
    ·subst hut
     refine ⟨_,by have:=aBl [];rwa [List.append_nil] at this,?_⟩
     rw [upd_same,if_pos rfl]
     exact hAt
    ·obtain ⟨X,hX,hB⟩:=hother u hu hut
     refine ⟨X,by have:=aBk [] u hu hut;rw [List.append_nil] at this;rw [this];exact hX,?_⟩
     rw [upd_ne hut,if_neg hut]
     exact hB
   ·intro u v hu hv huv
    rw [hL] at hu hv
    by_cases hut:u=t
    ·subst hut
     rw [upd_same,if_pos rfl,upd_ne (Ne.symm huv),if_neg (Ne.symm huv)]
     exact Zm v hv (Ne.symm huv) _ n3
    ·rw [upd_ne hut,if_neg hut]
     by_cases hvt:v=t
     ·subst hvt
      rw [upd_same,if_pos rfl]
      exact (Zm u hu hut _ n3).symm
     ·rw [upd_ne hvt,if_neg hvt]
      exact hI.dis u v hu hv huv
   ·exact hnd
   ·rw [hL]
    exact Zn xs.length (bC _) (fun u h1 h2=>by omega)
 by_cases h0:t=0
 ·subst h0
  rcases (hY.main (P 0) hk).2 with ⟨h1,h2⟩|⟨h1,h2,h3,h4,h5,h6,h7,h8,h9,h10⟩
  ·exact Nw h2 (by rw [upd_same];exact h1)
  ·
   have hi:Y.mn (P 0)=xs.length:=hI.m.symm
   rw [hi] at h1 h2 h3 h4 h5 h6 h7 h8 h9 h10
   have hPi:P xs.length=0:=hI.zero xs.length (bC _)
   have aI2:Vo (.agg (subs (rA A2) (Y.R xs.length 0).x)):=⟨_,rfl,by rw [iy];exact h9,vM h8⟩
   have aIx:Vw A2 (Y.R xs.length 0).l uM:=Vk hvw h5 h6
   have aIE:xB (Y.res 0 (P 0)).l.length (Y.R xs.length 0).x=true:=by
    have:=hf.inm
    rw [h3] at this
    simpa [xB,qo] using this
   have aIw:At A2 (Y.R xs.length 0) uM (.agg (subs (rA A2) (Y.R xs.length 0).x)) (sub (rA A2) (Y.res 0 (P 0)).c) :=
    ⟨aIx,rfl,by rw [h6];exact aIE,by rw [h4,h6];exact hf.inc,by rw [h4]⟩
   have hsep:Dis A2 (Y.R 0 (P 0+1)).l A2 (Y.R xs.length 0).l:=by
    intro i j v u g1 g2 g3 g4 g5
    have hi1:i<(Y.res 0 (P 0)).l.length:=by rw [←n4];exact mZ g1
    have hj1:j<(Y.res 0 (P 0)).l.length:=by rw [←h6];exact mZ g3
    have:=hvw.inj i j hi1 hj1 g5
    subst this
    exact UH h7 i v u g1 g2 g3 g4
   refine ⟨uM,e2,xs.set 0 (.agg (subs (rA A2) (Y.res 0 (P 0)).x))++[V.agg (subs (rA A2) (Y.R xs.length 0).x)],fun u=>if u=0∨u=xs.length then A2 else A u,sub (rA A2) (Y.res 0 (P 0)).c,?_,?_,hf.ev.2⟩
   ·rw [h3] at hans
    have e1:subs (rA A2) [V.agg (Y.R xs.length 0).x]=[.agg (subs (rA A2) (Y.R xs.length 0).x)]:=by simp only [subs,sub]
    rw [e1] at hans
    unfold Ib
    rw [hP0]
    exact hans
   ·have hL:(xs.set 0 (.agg (subs (rA A2) (Y.res 0 (P 0)).x))++[V.agg (subs (rA A2) (Y.R xs.length 0).x)]).length=xs.length+1:=by simp
    have hlast:(xs.set 0 (.agg (subs (rA A2) (Y.res 0 (P 0)).x))++[V.agg (subs (rA A2) (Y.R xs.length 0).x)])[xs.length]?=some (.agg (subs (rA A2) (Y.R xs.length 0).x)):=by
     rw [List.getElem?_append_right (by simp)]
     simp
    have hz:upd P 0 xs.length=0:=by rw [upd_ne (by omega)];exact hPi
    constructor
    ·exact hgn
    ·exact hlen2
    ·rw [hL,upd_same,h1]
    ·intro X hX
     rcases List.mem_append.1 hX with h|h
     ·exact aBg X h
     ·simp at h;subst h;exact aI2
    ·exact hle
    ·intro u hu
     rw [hL] at hu
     rw [upd_ne (by omega)]
     exact hI.zero u (by omega)
    ·intro u hu
     rw [hL] at hu
     by_cases hu0:u=0
     ·subst hu0
      refine ⟨_,aBl _,?_⟩
      rw [upd_same,if_pos (.inl rfl)]
      exact hAt
     ·by_cases hul:u=xs.length
      ·subst hul
       refine ⟨_,hlast,?_⟩
       rw [hz,if_pos (.inr rfl)]
       exact aIw
      ·have hu1:u<xs.length:=by omega
       obtain ⟨X,hX,hB⟩:=hother u hu1 hu0
       refine ⟨X,by rw [aBk _ u hu1 hu0];exact hX,?_⟩
       rw [upd_ne hu0,if_neg (by omega)]
       exact hB
    ·have key:∀ u v,u<xs.length+1→v<xs.length+1→u<v→Dis (if u=0∨u=xs.length then A2 else A u) (Y.R u (upd P 0 u)).l (if v=0∨v=xs.length then A2 else A v) (Y.R v (upd P 0 v)).l:=by
      intro u v hu hv huv
      by_cases hu0:u=0
      ·subst hu0
       rw [upd_same,if_pos (.inl rfl)]
       by_cases hvl:v=xs.length
       ·subst hvl
        rw [hz,if_pos (.inr rfl)]
        exact hsep
       ·rw [upd_ne (by omega),if_neg (by omega)]
        exact Zm v (by omega) (by omega) _ n3
      ·rw [upd_ne hu0,if_neg (by omega)]
       by_cases hvl:v=xs.length
       ·subst hvl
        rw [hz,if_pos (.inr rfl)]
        exact (Zm u (by omega) hu0 _ h5).symm
       ·rw [upd_ne (by omega),if_neg (by omega)]
        exact hI.dis u v (by omega) (by omega) (by omega)
     intro u v hu hv huv
     rw [hL] at hu hv
     rcases Nat.lt_or_gt_of_ne huv with h|h
     ·exact key u v hu hv h
     ·exact (key v u hv hu h).symm
    ·exact hnd
    ·rw [hL]
     exact Zn (xs.length+1) (by omega) (fun u g1 g2=>by
      have:u=xs.length:=by omega
      subst this;exact h10)
 ·exact Nw (hY.kid t (P t) htn h0 hk).1 (by rw [upd_ne (Ne.symm h0)])
end
end Go.Vx
