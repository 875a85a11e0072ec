/- A part of the proof of TopLocks. -/
import Derived.Test.YtbbcoelimmpbaaaGreatDoorVae
set_option linter.all false
set_option linter.unusedVariables false
set_option linter.unusedSimpArgs false
set_option maxRecDepth 1000000
noncomputable section
namespace Go.Vx
section
open Go Go.RowKit
variable {P:Program} {Hn H2:Hints} {comp:FuncId→Code→aH} {g g' g'':G} {σ σ' oJ:H} {w w' w'':World} {β β' β'':Nat→Option Nat} {lo lo':Lo} {fr fr' F F':List V} {A A':Act} {B0:Nat} {ro:Option Nat}
variable {sw:Nat→Prop} {ops:Array Oper} {ins:Nat→Ins} {cls ms:Nat→Nat} {f:Nat} {listed:Array Bool} {win born todo:List Nat} {Gr:List V} {pb:Nat→Nat} {g0:G} {β0:Nat→Option Nat} {σ0:H} {w0:World}
def II (cls:Nat→Nat) (n:Nat):List Nat:=(List.range n).filter fun i=>Nat.beq (cls i) 3
structure Mid (P:Program) (Hn:Hints) (ops:Array Oper) (ins:Nat→Ins) (cls ms:Nat→Nat) (B0:Nat) (g0:G) (β0:Nat→Option Nat) (σ0:H) (w0:World) (ih:Ih) (out:Out) (rest:List iU) (win lD:List Nat) (eff:Option Nat) (b0 jZ:List Nat)
  (lo:Lo) (σ:H) (Gr:List V) (listed:Array Bool) (A:Act) (w:World) (g:G) (β:Nat→Option Nat) (F:List V) (pb:Nat→Nat):Prop where
 inv:Inv P Hn ops ins cls ms B0 g0 β0 σ0 w0 win b0 (eff.toList++jE rest) lo σ Gr listed A w g β F pb
 cov:∀ i,i<ops.size→cls i<2→¬done listed i→i∈win∨i∈pW rest
 cur:Cur cls ms ops.size (II cls ops.size) lD eff b0 jZ rest
 ok:lX ins cls ms ops.size (II cls ops.size) rest win lD eff (b0++lD) jZ=true
 run:bW ih (lD.map ins++(eff.toList.map ins++flatten ins rest)) Gr lo σ=out
theorem Qy {o:Oper} {gd:Option (Nat×Bool)} {t:Nat} {v:l7}:gK P H2 f ops o≠.chk gd t v:=by
 have hb:(ug P H2 f o).getD (.op none .bad)≠.chk gd t v:=by
  intro e
  cases hc:ug P H2 f o with
  |none=>rw [hc] at e;cases e
  |some i0 =>
   rw [hc] at e
   simp only [Option.getD_some] at e
   subst e
   unfold ug at hc
   split at hc<;>simp [ay] at hc
 unfold gK
 cases o.guard with
 |none=>exact hb
 |some q =>
  obtain ⟨j,b⟩:=q
  dsimp only
  cases (ops[j]?).bind (·.dst)<;>simp
variable {ih:Ih} {out:Out} {rest:List iU} {lD b0 jZ:List Nat} {eff:Option Nat}
theorem YP (hout:out≠.fail) (hm:Gs P Hn H2 ops ro ih) (hs:Stat P H2 f ops ins cls ms sw) (hi:Mid P Hn ops ins cls ms B0 g0 β0 σ0 w0 ih out rest win lD eff b0 jZ lo σ Gr listed A w g β F pb) {j:Nat} (hw:sw j→∀ i,(ms j).testBit i=true→i<ops.size∧done listed i) (aAX:∀ o,ops[j]?=some o→ins j=gK P H2 f ops o) (hr:j∈Region.ready .any ops listed) (hc:cls j=2)
  {Q:Exit→Act→World→Prop} {K:Act→World→Prop}
  (hK:∀ A' w' g' β' F' s rest' YV b0' Jd lo' σ' zn,rest=s::rest'→Mid P Hn ops ins cls ms B0 g0 β0 σ0 w0 ih out rest' YV s.lD s.eff b0' Jd lo' σ' zn (listed.setIfInBounds j true) A' w' g' β' F' pb→K A' w'):wpOpIn (Fw ro) 0 P ops Q j K A w:=by
 obtain ⟨hlt,hnd,hms⟩:=jP hs hw hi.inv.core.size hi.inv.core.closed hr
 have hj:=hi.inv.Hq j hlt hc hnd
 have heff:eff=some j:=by
  rcases List.mem_append.1 hj with h|h
  ·simpa [Option.mem_toList] using h
  ·cases he:eff with
   |none=>have:=hi.cur.last he;rw [this] at h;simp [jE] at h
   |some e =>
    have:=(mQ rest hi.ok j h).2.2 e (by simp [he])
    exact absurd (hms e this).2 (hi.inv.Ba e (by simp [he])).2.2
 subst heff
 cases rest with
 |nil=>exact absurd (yY hi.ok).1 (by simp)
 |cons s rest =>
 obtain ⟨hso,hok⟩:=jL hi.ok
 obtain ⟨σ1,Gr1,F1,g1,hc1,hr1,hG1,hlen1⟩:=adT hs lD (fun a ha=>by
  obtain ⟨h1,h2,h3⟩:=hi.cur.adI a ha
  exact ⟨hs.Jc a (by omega),h1,(hms a (h3 j rfl)).2,h2⟩) hi.cur.nodup hi.inv.core hi.run
 have ho:ops[j]?=some ops[j]:=Array.getElem?_eq_getElem hlt
 have hins:=aAX _ ho
 simp only [Option.toList_some,List.map_cons,List.map_nil,List.cons_append,List.nil_append] at hr1
 rw [Nb (by rw [hins];exact fun _ _ _=>Qy)] at hr1
 obtain ⟨Gr2,lo2,σ2,hst⟩:∃ Gr2 lo2 σ2,jQ (yL ih) [] (ins j) Gr1 lo σ1=.norm Gr2 lo2 σ2:=by
  cases hq:jQ (yL ih) [] (ins j) Gr1 lo σ1 with
  |norm a b c=>exact ⟨a,b,c,rfl⟩
  |_=>rw [hq] at hr1;exact absurd hr1.symm hout
 rw [hst] at hr1
 have hr2:bW ih (flatten ins (s::rest)) Gr2 lo2 σ2=out:=hr1
 have hsame:=hc1.same hs hlt hms (.inr ⟨hc,fun a ha hca hb=>(hi.cur.Ci j rfl).2.2.2 a (fK.2 ⟨List.mem_range.2 ha,by simp [hca]⟩) hb⟩)
 obtain ⟨v,hG2,hF⟩:=QN (hs.loc j hlt) hsame hst
 have hdst:(ins j).dst=ops[j].dst:=by
  have:(gK P H2 f ops ops[j]).dst=ops[j].dst:=Fq (by
   rw [←hins];intro e;rw [e] at hst
   have h2:jQ (yL ih) [] (.op none .bad) Gr1 lo σ1=.fail:=rfl
   rw [h2] at hst;cases hst)
  rw [←this,hins]
 have hF2:jQ (yL ih) [] (gK P H2 f ops ops[j]) F1 lo σ1=.norm (eF F1 (ins j).dst v) lo2 σ2:=by rw [←hins];exact hF
 refine agd (ih:=yL ih) hm.call hm.app hm.idle hm.loc ho (hm.hdef ho) hc1.sc (by rw [hF2];simp) fun g' β' σ' lo' fr' A' w' hsc hst' hA he=>?_
 rw [hF2,rU] at he
 simp only [Out.norm.injEq] at he
 obtain ⟨rfl,rfl,rfl⟩:=he
 have hc2:=hc1.put (dj:=(ins j).dst) (v:=v) (zn:=Gr2) hs hw hr rfl (by omega) (by rw [hG2,AA]) (fun t=>by
  by_cases ht:(ins j).dst=some t
  ·exact .inl (by rw [hG2];exact Ah hc1.len ht)
  ·exact .inr ⟨ht,by rw [hG2];exact sN ht⟩) hsc hst' (by rw [hdst];exact hA)
 have hmask:∀ i,(ms j).testBit i=true→done listed i:=fun i hb=>(hms i hb).2
 refine Exists.elim (enter (n:=ops.size) (aL:=II cls ops.size) hout hs hso hok hc2 hr2 (fun i hi'=>?_) (fun i hi' hn hc0 d hd=>?_) (fun i hi' hd=>?_) (fun i k1 k2 k3=>?_) (fun e he hd=>?_) (fun e k1 k2 k3=>?_) rfl) fun Gr3 h=>?_
 ·exact hi.inv.N9 i (fK.1 hi').1
 ·have hw:=(fK.1 hi').1
  obtain ⟨x,hx,hl⟩:=hi.inv.idem i hw (fun h=>hn (dN.2 (.inl h))) d hd
  obtain ⟨q1,q2⟩:=hi.inv.N9 i hw
  obtain ⟨d',hd',hni⟩:=hs.low i q1 q2
  rw [hd] at hd';cases hd'
  have hdis:=(hso.sv i hi').1
  have hun:∀ t∈rdd (ins i),aO Gr2 t=aO Gr t:=fun t ht=>by
   have hx:=hdis t ht
   rw [hG2,sN (fun e=>hx (List.mem_append_right _ (List.mem_append_left _ (jl.2 ⟨j,by simp,e⟩)))),hG1 t (fun e=>hx (List.mem_append_left _ e))]
  refine ⟨x,?_,fun hlen=>?_⟩
  ·rw [xK (G:=Gr) (fun t ht=>hun t (by unfold rdd;rw [hd];simp [ht]))]
   rw [hc0] at hni
   exact Nc hni hx _ _
  ·rw [hun d (by unfold rdd;rw [hd];simp)]
   exact hl (by rw [hG2,AA,hlen1] at hlen;exact hlen)
 ·obtain ⟨q1,q2⟩:=hso.pre i hi'
  rcases dN.1 hd with hd|rfl
  ·exact hnd (hi.inv.core.closed i (hs.Jc i (by omega)) hd j (q2 j rfl)).2
  ·omega
 ·have hn:¬done listed i:=fun h=>k3 (dN.2 (.inl h))
  rcases hi.cov i k1 k2 hn with h|h
  ·refine .inl (fK.2 ⟨h,?_⟩)
   cases hb:(ms j).testBit i with
   |false=>rfl
   |true=>exact absurd (hmask i hb) hn
  ·exact .inr h
 ·have hl:=mQ _ hi.ok e he
  rcases dN.1 hd with hd|rfl
  ·exact (hi.inv.Ba e (List.mem_append_right _ he)).2.2 hd
  ·exact hnd (hmask j (hl.2.2 j (by simp)))
 ·have hn:¬done listed e:=fun h=>k3 (dN.2 (.inl h))
  have:=hi.inv.Hq e k1 k2 hn
  rcases List.mem_append.1 this with h|h
  ·simp at h;exact absurd (dN.2 (.inr h.symm)) k3
  ·exact h
 ·obtain ⟨h1,h2,h3⟩:=h
  exact hK A' w' g' β' _ s rest _ (b0++lD) _ _ _ Gr3 rfl ⟨h1,h3,hso.cur,hok,h2⟩
theorem mid_end (hs:Stat P H2 f ops ins cls ms sw) (hi:Mid P Hn ops ins cls ms B0 g0 β0 σ0 w0 ih out rest win lD eff b0 jZ lo σ Gr listed A w g β F pb) (hall:∀ i,i<ops.size→done listed i):jR P (aQ P Hn) B0 g0 β0 σ0 w0 out .normal A w:=by
 have heff:eff=none:=by
  cases he:eff with
  |none=>rfl
  |some e =>
   have:=hi.inv.Ba e (by simp [he])
   exact absurd (hall e this.1) this.2.2
 subst heff
 have hrest:=hi.cur.last rfl
 subst hrest
 obtain ⟨_,aAJ⟩:=yY hi.ok
 obtain ⟨σ1,Gr1,F1,g1,hc1,hr1,_,_⟩:=adT hs lD (fun a ha=>by
  obtain ⟨h1,h2,_⟩:=hi.cur.adI a ha
  have:=hs.Jc a (by omega)
  exact ⟨this,h1,hall a this,h2⟩) hi.cur.nodup hi.inv.core hi.run
 have hr2:Out.norm Gr1 lo σ1=out:=hr1
 have hF:F1=Gr1:=Jf hc1.len fun t=>by
  rcases hc1.agr t with h|⟨k,hk,_,hnd,_⟩|⟨a,ha,hca,hnb,_⟩
  ·exact h
  ·exact absurd (hall k hk) hnd
  ·exact absurd (aAJ a (fK.2 ⟨List.mem_range.2 ha,by simp [hca]⟩)) hnb
 subst hF
 exact ⟨F1,lo,σ1,.inl ⟨hr2.symm,rfl⟩,g1,β,hc1.sc,hc1.stp⟩
theorem ready_nil {listed:Array Bool} (hl:listed.size=ops.size) (hlow:∀ i o,ops[i]?=some o→∀ e∈o.after,Region.binds .any e=true→e.on<i) (h:Region.ready .any ops listed=[]):∀ i,i<ops.size→done listed i:=by
 intro i
 induction i using Nat.strongRecOn with
 |ind i ihi =>
  intro hlt
  by_cases hd:done listed i
  ·exact hd
  ·exfalso
   have:i∈Region.ready .any ops listed:=by
    refine mem_ready.2 ⟨by unfold done at hd;simpa using hd,ops[i],Array.getElem?_eq_getElem hlt,fun e he hb=>?_⟩
    have h1:=hlow i _ (Array.getElem?_eq_getElem hlt) e he hb
    have h2:=ihi e.on h1 (by omega)
    unfold done at h2
    simp only [Array.getD,show e.on<listed.size by omega,dif_pos] at h2 ⊢
    exact h2
   rw [h] at this
   simp at this
def og (ops:Array Oper) (listed:Array Bool):List Nat:=(List.range ops.size).filter fun i=>decide (¬done listed i)
theorem DR {listed:Array Bool} {j:Nat} (hj:j<ops.size) (hn:¬done listed j):(og ops (listed.setIfInBounds j true)).length<(og ops listed).length:=by
 have he:og ops (listed.setIfInBounds j true)=(og ops listed).filter fun i=>decide (j≠i):=by
  unfold og
  rw [List.filter_filter]
  refine List.filter_congr fun i _=>?_
  rw [Bool.eq_iff_iff]
  simp only [au,decide_eq_true_iff,dN,not_or]
  exact ⟨fun ⟨a,b⟩=>⟨b,a⟩,fun ⟨a,b⟩=>⟨b,a⟩⟩
 rw [he]
 exact List.length_filter_lt_length_iff_exists.2 ⟨j,fK.2 ⟨List.mem_range.2 hj,by simpa using hn⟩,by simp⟩
theorem Zy (hsw:∀ j,¬sw j) (hout:out≠.fail) (hm:Gs P Hn H2 ops ro ih) (hs:Stat P H2 f ops ins cls ms sw):∀ (fuel:Nat) {rest:List iU} {win lD:List Nat} {eff:Option Nat} {b0 jZ:List Nat} {lo:Lo} {σ:H} {Gr:List V} {listed:Array Bool} {A:Act} {w:World} {g:G} {β:Nat→Option Nat} {F:List V} {pb:Nat→Nat},
  (og ops listed).length≤fuel→Mid P Hn ops ins cls ms B0 g0 β0 σ0 w0 ih out rest win lD eff b0 jZ lo σ Gr listed A w g β F pb →
  wpAnyIn (Fw ro) 0 P .any ops (jR P (aQ P Hn) B0 g0 β0 σ0 w0 out) fuel listed A w:=by
 intro fuel
 induction fuel with
 |zero =>
  intro rest win lD eff b0 jZ lo σ Gr listed A w g β F pb hle hi
  have hall:∀ i,i<ops.size→done listed i:=fun i hlt=>by
   by_cases hd:done listed i
   ·exact hd
   ·have:i∈og ops listed:=fK.2 ⟨List.mem_range.2 hlt,by simpa using hd⟩
    have:=List.length_pos_of_mem this
    omega
  refine ⟨?_,mid_end hs hi hall⟩
  refine List.eq_nil_iff_forall_not_mem.2 fun j hj=>?_
  obtain ⟨h1,h2,_⟩:=jP hs (fun h=>absurd h (hsw _)) hi.inv.core.size hi.inv.core.closed hj
  exact h2 (hall j h1)
 |succ fuel ihf =>
  intro rest win lD eff b0 jZ lo σ Gr listed A w g β F pb hle hi
  refine ⟨fun hnil=>mid_end hs hi (ready_nil hi.inv.core.size hs.ayw hnil),fun j hj=>?_⟩
  obtain ⟨h1,h2,_⟩:=jP hs (fun h=>absurd h (hsw _)) hi.inv.core.size hi.inv.core.closed hj
  have hlt:(og ops (listed.setIfInBounds j true)).length≤fuel:=by have:=DR h1 h2;omega
  have hcov:∀ i,i<ops.size→cls i<2→¬done (listed.setIfInBounds j true) i→i∈win∨i∈pW rest:=fun i k1 k2 k3=>hi.cov i k1 k2 fun h=>k3 (dN.2 (.inl h))
  rcases hs.cl3 j with hc|hc|hc
  ·exact YQ hm hs hi.inv (hsw j) hj hc fun A' w' g' β' F' hi'=>ihf hlt ⟨hi',hcov,hi.cur,hi.ok,hi.run⟩
  ·exact YP hout hm hs hi (fun h=>absurd h (hsw _)) (fun o h=>hs.MN j o (hsw j) h) hj hc fun A' w' g' β' F' s rest' YV b0' Jd lo' σ' zn _ hi'=>ihf hlt hi'
  ·exact ahi hs hi.inv (hsw j) hj hc fun A' w' g' β' F' pb' hi'=>ihf hlt ⟨hi',hcov,hi.cur,hi.ok,hi.run⟩
end
section
open Go Go.RowKit
variable {P:Program} {Hn H2:Hints} {comp:FuncId→Code→aH} {g g' g'':G} {σ σ' oJ:H} {w w' w'':World} {β β' β'':Nat→Option Nat} {lo lo':Lo} {fr fr' F F':List V} {A A':Act} {B0:Nat} {ro:Option Nat}
theorem Df.drawn {k:Nat}:∀ {l:List Deferred},Df P B0 w l→Df P B0 { w with drawn:=k } l
 |[],_=>trivial
 |_::_,h=>⟨h.1,Df.drawn h.2⟩
theorem Sc.drawn {k:Nat} (h:Sc P comp B0 g β σ lo fr A w):Sc P comp B0 g β σ lo fr A { w with drawn:=k } where
 s:=⟨h.s.f,⟨h.s.b.1,h.s.b.2,h.s.b.3⟩,⟨fun b o v hv=>h.s.w.frozen b o v hv,fun i ob hi=>let ⟨b,n,h1,h2,h3⟩:=h.s.w.objs i ob hi;⟨b,n,h1,Ro.mono (.refl g) rfl h2,h3⟩,h.s.w.inj,h.s.w.fresh,h.s.w.bound⟩⟩
 d:=h.d.drawn
 le:=h.le
theorem Stp.drawn {k:Nat}:Stp g β σ w g β σ { w with drawn:=k }:=⟨.refl g,⟨rfl,rfl,rfl,bC _,fun _ _ _ _ _=>rfl⟩,fun _ h _=>h,fun t b h _=>⟨t,h⟩,fun _ _ h _=>h⟩
theorem l7.ad6 (o:l7):o.cls≤2:=by
 cases o<;>simp only [l7.cls]<;>first|omega|(cases Nat.beq _ _<;>simp)
def insOf (P:Program) (H2:Hints) (f:Nat) (ops:Array Oper) (i:Nat):Ins:=(ops.toList.map (gK P H2 f ops)).getD i (.op none .bad)
def yN (ops:Array Oper) (i:Nat):Nat:=(masks ops.toList).getD i 0
def jM (P:Program) (H2:Hints) (f:Nat) (ops:Array Oper) (i:Nat):Nat:=(ops.toList.map fun o=>vG o (gK P H2 f ops o)).getD i 2
theorem Eh {ops:Array Oper} {f i:Nat} {o:Oper} (h:ops[i]?=some o):insOf P H2 f ops i=gK P H2 f ops o:=by
 unfold insOf
 rw [List.getD,List.getElem?_map,Array.getElem?_toList,h];rfl
theorem su {ops:Array Oper} {f i:Nat} {o:Oper} (h:ops[i]?=some o):jM P H2 f ops i=vG o (insOf P H2 f ops i):=by
 rw [Eh h]
 unfold jM
 rw [List.getD,List.getElem?_map,Array.getElem?_toList,h];rfl
theorem uU {ops:Array Oper} {f i:Nat} (h:jM P H2 f ops i≠2):i<ops.size:=by
 by_cases hl:i<ops.size
 ·exact hl
 ·exfalso
  apply h
  unfold jM
  rw [List.getD,gI (by simp;omega)];rfl
theorem F6 {a b:Nat} (h:a≠b):(!(Nat.beq a b))=true:=by
 cases hb:Nat.beq a b with
 |false=>rfl
 |true=>exact absurd (aJ hb) h
theorem Dn {o:Oper} {i:Ins} (h:vG o i<2):∃ d,i.dst=some d∧LD d (vG o i) i:=by
 unfold vG at h ⊢
 split at h
 ·omega
 ·split at h
  ·omega
  ·rename_i d v _
   exact ⟨d,rfl,rfl,bC _,h⟩
  ·rename_i t b d d' v
   cases hb:Nat.beq d d' with
   |false=>rw [hb] at h;simp at h
   |true =>
    have:=aJ hb
    subst this
    rw [hb] at h
    simp only [cond_true] at h ⊢
    refine ⟨d,rfl,rfl,rfl,?_,h⟩
    split at h<;>rename_i hc<;>first|(rw [hc];simp;done)|omega
  ·omega
theorem Jv {o:Oper} {i:Ins} (h:vG o i=3):∃ d z,i=.op (some d) (.bM z):=by
 unfold vG at h
 split at h
 ·omega
 ·split at h
  ·rename_i d z;exact ⟨d,z,rfl⟩
  ·rename_i v _;have:=v.ad6;omega
  ·rename_i t b d d' v
   cases hb:Nat.beq d d' with
   |false=>rw [hb] at h;simp at h
   |true =>
    rw [hb] at h
    simp only [cond_true] at h
    split at h<;>omega
  ·omega
theorem FP {o:Oper} {i:Ins}:vG o i≤3:=by
 unfold vG
 split
 ·omega
 ·split
  ·omega
  ·rename_i v _;have:=v.ad6;omega
  ·rename_i t b d d' v
   cases Nat.beq d d'
   ·simp
   ·simp only [cond_true];split<;>omega
  ·omega
theorem uw:∀ {l:List Oper} {k:Nat},nX l k=true→∀ i o,l[i]?=some o→∀ e∈o.after,Region.binds .any e=true→e.on<k+i
 |[],_,_,i,o,h=>by simp at h
 |x::xs,k,hl,i,o,h=>fun e he hb=>by
  simp only [nX,au,List.all_eq_true] at hl
  cases i with
  |zero =>
   simp at h;subst h
   have:=hl.1 e (Array.mem_toList_iff.2 he)
   rw [hb] at this
   simp at this
   omega
  |succ i =>
   simp at h
   have:=uw hl.2 i o h e he hb
   omega
theorem Uu {f:Nat} {ops:Array Oper} {l:List iU} (h:PS P Hn f ops=some l) :
  zU (insOf P (gZ Hn) f ops) (jM P (gZ Hn) f ops) (yN ops) ops.size l=true∧nX ops.toList 0=true∧l≠[]:=by
 unfold PS at h
 dsimp only at h
 split at h
 ·rename_i hc
  cases h
  simp only [au] at hc
  refine ⟨hc.1.1,hc.1.2,?_⟩
  intro e
  have:=hc.2
  rw [e] at this
  simp at this
 ·cases h
structure Fa (ins:Nat→Ins) (cls ms:Nat→Nat) (n:Nat) (l:List iU):Prop where
 cover:∀ i,i<n→(cls i<2∧i∈pW l)∨(cls i=2∧i∈jE l)∨cls i=3
 nodup:(ou ins ((List.range n).filter fun i=>!(Nat.beq (cls i) 2))).Nodup
 axS:∀ t∈ou ins ((List.range n).filter fun i=>Nat.beq (cls i) 2),t∉ou ins ((List.range n).filter fun i=>!(Nat.beq (cls i) 2))
 reads:∀ i j t,i<n→j<n→cls i≠3→cls j≠2→(ins j).dst=some t→t∈(ins i).slots→(ms i).testBit j=true∧(cls i=2∨cls j≠3)
 loc:∀ i,i<n→BI (ins i)=true
 stages:lX ins cls ms n (II cls n) l [] [] none [] []=true
theorem yD {ins:Nat→Ins} {cls ms:Nat→Nat} {n:Nat} {l:List iU} (h:zU ins cls ms n l=true):Fa ins cls ms n l:=by
 simp only [zU,au] at h
 obtain ⟨⟨⟨⟨⟨⟨h1,h2⟩,h3⟩,h4⟩,h5⟩,h6⟩,h7⟩:=h
 refine ⟨fun i hi=>?_,wQ.1 h2,xq.1 h4,fun i j t hi hj hci hcj hd ht=>?_,fun i hi=>jy.1 h6 i (List.mem_range.2 hi),h7⟩
 ·have:=jy.1 h1 i (List.mem_range.2 hi)
  simp only [gu,au,ng,Nat.blt_eq] at this
  rcases this with (⟨a,b⟩|⟨a,b⟩)|a
  ·exact .inl ⟨a,b⟩
  ·exact .inr (.inl ⟨aJ a,b⟩)
  ·exact .inr (.inr (aJ a))
 ·have:=jy.1 h5 i (fK.2 ⟨List.mem_range.2 hi,F6 hci⟩)
  have:=jy.1 this j (fK.2 ⟨List.mem_range.2 hj,F6 hcj⟩)
  rw [hd] at this
  simp only [ng.2 ht,Bool.not_true,Bool.false_or,au,gu] at this
  refine ⟨this.1,?_⟩
  rcases this.2 with h|h
  ·exact .inl (aJ h)
  ·refine .inr fun e=>?_
   rw [e] at h;simp at h
theorem apz {f:Nat} {ops:Array Oper} {l:List iU} (hf:Fa (insOf P H2 f ops) (jM P H2 f ops) (yN ops) ops.size l) (hl:nX ops.toList 0=true):Stat P H2 f ops (insOf P H2 f ops) (jM P H2 f ops) (yN ops) (fun _=>False):=by
 have hget:∀ i,i<ops.size→ops[i]?=some ops[i]!:=fun i hi=>by simp [hi]
 refine ⟨fun i o _ h=>Eh h,fun i hi hc=>?_,fun i hi hc=>?_,fun i=>?_,fun i o j _ ho hb=>?_,fun i j d hi hj hci hcj h1 h2=>?_,fun e i d he hi hce hci h1 h2=>?_,hf.reads,hf.loc,fun i hc=>uU hc,fun i o ho e he hb=>?_⟩
 ·rw [su (hget i hi)] at hc ⊢
  exact Dn hc
 ·rw [su (hget i hi)] at hc
  exact Jv hc
 ·by_cases hi:i<ops.size
  ·have:=FP (o:=ops[i]!) (i:=insOf P H2 f ops i)
   rw [su (hget i hi)]
   omega
  ·by_cases hc:jM P H2 f ops i=2
   ·omega
   ·exact absurd (uU hc) hi
 ·obtain ⟨e,he,hbe,h⟩:=BF (ops:=ops.toList) (by rw [Array.getElem?_toList];exact ho) hb
  exact ⟨e,Array.mem_toList_iff.1 he,hbe,h⟩
 ·refine D7 hf.nodup i ?_ j ?_ h1 h2 (List.Pairwise.filter _ List.nodup_range)
  ·exact fK.2 ⟨List.mem_range.2 hi,F6 hci⟩
  ·exact fK.2 ⟨List.mem_range.2 hj,F6 hcj⟩
 ·exact hf.axS d (jl.2 ⟨e,fK.2 ⟨List.mem_range.2 he,by simpa using hce⟩,h1⟩) (jl.2 ⟨i,fK.2 ⟨List.mem_range.2 hi,F6 hci⟩,h2⟩)
 ·have:=uw hl i o (by rw [Array.getElem?_toList];exact ho) e he hb
  omega
end
section
open Go Go.RowKit
variable {P:Program} {Hn H2:Hints} {comp:FuncId→Code→aH} {g g' g'':G} {σ σ' oJ:H} {w w' w'':World} {β β' β'':Nat→Option Nat} {lo lo':Lo} {fr fr' F F':List V} {A A':Act} {B0:Nat} {ro:Option Nat}
variable {ops:Array Oper} {ins:Nat→Ins} {cls ms:Nat→Nat} {f:Nat} {listed:Array Bool} {win born todo:List Nat} {Gr:List V} {pb:Nat→Nat} {g0:G} {β0:Nat→Option Nat} {σ0:H} {w0:World}
variable {ih:Ih} {out:Out} {rest:List iU} {lD b0 jZ:List Nat} {eff:Option Nat}
theorem J8 {α:Type} (a b:Option α):∀ (n m:Nat) (t:T α) (i j:Nat),i<n→j<m→i≠j→T.lU a n (T.lU b m t j) i=T.lU b m (T.lU a n t i) j
 |0,_,_,_,_,h,_,_=>absurd h (by omega)
 |_+1,0,_,_,_,_,h,_=>absurd h (by omega)
 |n+1,m+1,t,i,j,hi,hj,hne=>by
  have ih:=J8 a b n m
  have z:∀ k:Nat,k≠0→Nat.beq k 0=false:=fun k hk=>by cases k<;>first|rfl|exact absurd rfl hk
  have par:∀ k:Nat,k%2=1→Nat.beq (k%2) 1=true:=fun k hk=>by rw [hk];rfl
  have acB:∀ k:Nat,¬k%2=1→Nat.beq (k%2) 1=false:=fun k hk=>by
   have:k%2=0:=by omega
   rw [this];rfl
  by_cases h1:i=0
  ·by_cases h2:j=0
   ·omega
   ·subst h1
    have q:=z j h2
    by_cases p:j%2=1
    ·cases t<;>simp only [T.lU,q,par j p,cond_true,cond_false,Nat.beq_refl]
    ·cases t<;>simp only [T.lU,q,acB j p,cond_true,cond_false,Nat.beq_refl]
  ·by_cases h2:j=0
   ·subst h2
    have q:=z i h1
    by_cases p:i%2=1
    ·cases t<;>simp only [T.lU,q,par i p,cond_true,cond_false,Nat.beq_refl]
    ·cases t<;>simp only [T.lU,q,acB i p,cond_true,cond_false,Nat.beq_refl]
   ·have q1:=z i h1
    have q2:=z j h2
    by_cases p1:i%2=1<;>by_cases p2:j%2=1
    ·cases t<;>simp only [T.lU,q1,q2,par i p1,par j p2,cond_true,cond_false]<;>rw [ih _ (i / 2) (j / 2) (by omega) (by omega) (by omega)]
    ·cases t<;>simp only [T.lU,q1,q2,par i p1,acB j p2,cond_true,cond_false]
    ·cases t<;>simp only [T.lU,q1,q2,acB i p1,par j p2,cond_true,cond_false]
    ·cases t<;>simp only [T.lU,q1,q2,acB i p1,acB j p2,cond_true,cond_false]<;>rw [ih _ (i / 2-1) (j / 2-1) (by omega) (by omega) (by omega)]
theorem H.set_comm (h:H) {i j:Nat} (a b:Obj) (hne:i≠j):(h.set i a).set j b=(h.set j b).set i a:=by
 have:=J8 (some b) (some a) (j+1) (i+1) h.objs j i (by omega) (by omega) (Ne.symm hne)
 simp only [H.set,T.put]
 rw [this]
theorem Ec {h:H} {i j:Nat} {o:Obj} (hne:i≠j):getCells (h.set i o) j=getCells h j:=by
 unfold getCells
 rw [H.rQ,if_neg hne]
theorem KF {n i off:Nat} {a y:aF} {v:V} {lo':Lo} {h h':H} (ha:a.ev fr=.dF i off) (hq:jT n a y fr lo h=.ok v lo' h') :
  ∃ cs cs':List V,v=.undef∧lo'=lo∧getCells h i=some cs∧h'=h.set i (.cells cs')∧∀ h2,getCells h2 i=some cs→jT n a y fr lo h2=.ok .undef lo (h2.set i (.cells cs')):=by
 have key:∀ u:V,(bif Nat.beq u.cells.length n&&dO u.cells then bH (a.ev fr) u.cells lo h else .fail)=.ok v lo' h'→∃ cs cs':List V,v=.undef∧lo'=lo∧getCells h i=some cs∧h'=h.set i (.cells cs')∧∀ h2,getCells h2 i=some cs→(bif Nat.beq u.cells.length n&&dO u.cells then bH (a.ev fr) u.cells lo h2 else .fail)=.ok .undef lo (h2.set i (.cells cs')):=by
  intro u hq
  cases hc:(Nat.beq u.cells.length n&&dO u.cells) with
  |false=>rw [hc] at hq;cases hq
  |true =>
   rw [hc] at hq
   simp only [cond_true,ha,bH] at hq ⊢
   cases hg:getCells h i with
   |none=>rw [hg] at hq;cases hq
   |some cs =>
    rw [hg] at hq
    dsimp only at hq
    cases hs:splice off cs u.cells with
    |none=>rw [hs] at hq;cases hq
    |some cs' =>
     rw [hs] at hq
     cases hq
     refine ⟨cs,cs',rfl,rfl,rfl,rfl,fun h2 hg2=>?_⟩
     rw [hg2]
     dsimp only
     rw [hs]
 unfold jT at hq ⊢
 cases hy:y.ev fr with
 |bf t o=>rw [hy] at hq;cases hq
 |undef=>rw [hy] at hq;cases hq
 |_=>rw [hy] at hq;exact key _ hq
theorem Ip {e1 e2 i:Nat} (h:i≠e2):yO ms e1 e2 i=ms i:=by
 unfold yO
 rw [DZ h];rfl
theorem Aj {e1 e2 i j:Nat} (h:(ms i).testBit j=true):(yO ms e1 e2 i).testBit j=true:=by
 by_cases hi:i=e2
 ·subst hi;unfold yO;rw [VR];simp [Nat.testBit_or,h]
 ·rw [Ip hi];exact h
theorem aoJ {e1 e2 j:Nat} (h:(yO ms e1 e2 e2).testBit j=true):(ms e2).testBit j=true∨j=e1∨(ms e1).testBit j=true:=by
 unfold yO at h
 rw [VR] at h
 simp only [cond_true,Nat.testBit_or,gu] at h
 rcases h with h|h|h
 ·exact .inl h
 ·rw [Nat.testBit_two_pow] at h
  exact .inr (.inl (of_decide_eq_true h).symm)
 ·exact .inr (.inr h)
structure SwF (ins:Nat→Ins) (cls ms:Nat→Nat) (n e1 e2 p1 p2:Nat) (out:Out):Prop where
 i1:∃ k x,ins e1=.op none (.store k (.tmp p1) x)
 i2:∃ k x,ins e2=.op none (.store k (.tmp p2) x)
 lt1:e1<n
 lt2:e2<n
 ne:e1≠e2
 nb:(ms e1).testBit e2=false
 c1:cls e1=2
 c2:cls e2=2
 oth:∀ e,e<n→cls e=2→e≠e1→e≠e2→(ms e2).testBit e=true
 one:∀ i,i<n→cls i=1→(ms e2).testBit i=true
 neq:∀ F l h,out=.norm F l h→∃ a b o q,aO F p1=.dF a o∧aO F p2=.dF b q∧a≠b
def SwI (e1 e2:Nat) (lD:List Nat) (eff:Option Nat) (rest:List iU):Prop:=(eff=some e1→lD=[]∧Ql e2 rest=true)∧AY e1 e2 rest=true
theorem Oz {a b:Option Nat} (h:QS a b=true):a=b:=by
 cases a<;>cases b<;>first|rfl|cases h|skip
 rw [aJ (show Nat.beq _ _=true from h)]
theorem nJ {l:List Nat} (h:vH l=true):l=[]:=by
 cases l with
 |nil=>rfl
 |cons a l=>cases h
theorem ads {e2:Nat} {r:List iU} (h:Ql e2 r=true):r=[⟨[],[],[],some e2⟩,⟨[],[],[],none⟩]:=by
 unfold Ql at h
 split at h
 ·rename_i b c
  simp only [au] at h
  obtain ⟨⟨⟨⟨⟨⟨⟨h1,h2⟩,h3⟩,h4⟩,h5⟩,h6⟩,h7⟩,h8⟩:=h
  obtain ⟨b1,b2,b3,b4⟩:=b
  obtain ⟨c1,c2,c3,c4⟩:=c
  dsimp only at h1 h2 h3 h4 h5 h6 h7 h8
  rw [nJ h1,nJ h2,nJ h3,Oz h4,nJ h5,nJ h6,nJ h7,Oz h8]
 ·cases h
theorem SwI.next {e1 e2:Nat} {s:iU} (h:SwI e1 e2 lD eff (s::rest)):SwI e1 e2 s.lD s.eff rest:=by
 have h2:=h.2
 simp only [AY,au,gu,Bool.not_eq_true'] at h2
 refine ⟨fun he=>?_,h2.2⟩
 rcases h2.1 with h3|h3
 ·rw [he] at h3
  simp [QS] at h3
 ·exact ⟨nJ h3.1,h3.2⟩
variable {e1 e2 p1 p2:Nat}
theorem apA (hout:out≠.fail) (hm:Gs P Hn H2 ops ro ih) (hs':Stat P H2 f ops ins cls (yO ms e1 e2) (fun j=>j=e2)) (hs:Stat P H2 f ops ins cls ms (fun _=>False)) (hf:SwF ins cls ms ops.size e1 e2 p1 p2 out)
  (hi:Mid P Hn ops ins cls (yO ms e1 e2) B0 g0 β0 σ0 w0 ih out rest win lD eff b0 jZ lo σ Gr listed A w g β F pb) (hsi:SwI e1 e2 lD eff rest) (hr:e2∈Region.ready .any ops listed) (hnd1:¬done listed e1)
  {Q:Exit→Act→World→Prop} {K:Act→World→Prop}
  (hK:∀ A' w' g' β' rest' YV aAj aAs b0' Jd lo' σ',Mid P Hn ops ins cls ms B0 g0 β0 σ0 w0 ih out rest' YV aAj aAs b0' Jd lo' σ' Gr (listed.setIfInBounds e2 true) A' w' g' β' F pb→K A' w'):wpOpIn (Fw ro) 0 P ops Q e2 K A w:=by
 have hcl:Closed ops ms listed:=fun j hj hd i hb=>hi.inv.core.closed j hj hd i (Aj hb)
 obtain ⟨hlt,hnd,hms⟩:=jP hs (fun h=>h.elim) hi.inv.core.size hcl hr
 have h1t:=hi.inv.Hq e1 hf.lt1 hf.c1 hnd1
 have h2t:=hi.inv.Hq e2 hf.lt2 hf.c2 hnd
 have heff:eff=some e1:=by
  cases he:eff with
  |none=>have:=hi.cur.last he;rw [he,this] at h1t;simp [jE] at h1t
  |some e =>
   by_cases h1:e=e1
   ·rw [h1]
   ·exfalso
    have hlm:∀ j∈jE rest,(yO ms e1 e2 j).testBit e=true:=fun j hj=>(mQ rest hi.ok j hj).2.2 e (by simp [he])
    have aAS:=hi.cur.Ci e he
    by_cases h2:e=e2
    ·subst h2
     have h1r:e1∈jE rest:=by
      rcases List.mem_append.1 h1t with h|h
      ·rw [he] at h;simp at h;exact absurd h.symm h1
      ·exact h
     have:=hlm e1 h1r
     rw [Ip hf.ne,hf.nb] at this
     cases this
    ·exact (hi.inv.Ba e (by simp [he])).2.2 (hms e (hf.oth e aAS.2.1 aAS.1 h1 h2)).2
 obtain ⟨ayb,htl⟩:=hsi.1 heff
 have hrest:=ads htl
 subst heff ayb hrest
 obtain ⟨k1,x1,hi1⟩:=hf.i1
 obtain ⟨k2,x2,hi2⟩:=hf.i2
 have hrun:bW ih [ins e1,ins e2] Gr lo σ=out:=hi.run
 rw [hi1,hi2] at hrun
 have r1:∀ {X:List V} {l:Lo} {s:H} {is:List Ins} {k:Nat} {p:Nat} {x:aF},bW ih (.op none (.store k (.tmp p) x)::is) X l s=(match jT k (.tmp p) x X l s with|.ok _ l s=>bW ih is X l s|.fail=>.fail):=by
  intro X l s is k p x
  have:bW ih (.op none (.store k (.tmp p) x)::is) X l s=xE (bW ih is) (FU (yL ih) [] X none (jT k (.tmp p) x X l s)):=rfl
  rw [this]
  cases jT k (.tmp p) x X l s<;>rfl
 rw [r1] at hrun
 cases ho1:jT k1 (.tmp p1) x1 Gr lo σ with
 |fail=>rw [ho1] at hrun;exact absurd hrun.symm hout
 |ok v1 lo1 σ1 =>
 rw [ho1] at hrun
 dsimp only at hrun
 rw [r1] at hrun
 cases ho2:jT k2 (.tmp p2) x2 Gr lo1 σ1 with
 |fail=>rw [ho2] at hrun;exact absurd hrun.symm hout
 |ok v2 lo2 σ2 =>
 rw [ho2] at hrun
 have hfin:(.norm Gr lo2 σ2:Out)=out:=hrun
 clear hrun
 obtain ⟨a,b,oa,ob,ha,hb,hab⟩:=hf.neq Gr lo2 σ2 hfin.symm
 obtain ⟨cs1,aM7,rfl,rfl,hg1,rfl,hst1⟩:=KF (a:=.tmp p1) ha ho1
 obtain ⟨cs2,ad8,rfl,rfl,hg2,rfl,hst2⟩:=KF (a:=.tmp p2) hb ho2
 rw [Ec hab] at hg2
 have aIO:=hst2 σ hg2
 have aIN:=hst1 (σ.set b (.cells ad8)) (by rw [Ec (Ne.symm hab)];exact hg1)
 have hsame:Same (ins e2).slots F Gr:=by
  intro t ht
  rcases hi.inv.core.agr t with h|⟨j,hj,hcj,aIK,hd⟩|⟨c,hc,hcc,hnb,hd⟩
  ·exact h
  ·exact absurd (hms j (hs.reads e2 j t hf.lt2 hj (by have:=hf.c2;omega) (by omega) hd ht).1).2 aIK
  ·have hbit:=(hs.reads e2 c t hf.lt2 hc (by have:=hf.c2;omega) (by omega) hd ht).1
   obtain ⟨hso,_⟩:=jL hi.ok
   have:=(hso.cur.Ci e2 rfl).2.2.2 c (fK.2 ⟨List.mem_range.2 hc,by simp [hcc]⟩) (Aj hbit)
   simp at this
   exact absurd this hnb
 have aBb:jQ (yL ih) [] (ins e2) Gr lo2 σ=.norm Gr lo2 (σ.set b (.cells ad8)):=by
  rw [hi2]
  have:jQ (yL ih) [] (.op none (.store k2 (.tmp p2) x2)) Gr lo2 σ=FU (yL ih) [] Gr none (jT k2 (.tmp p2) x2 Gr lo2 σ):=rfl
  rw [this,aIO];rfl
 obtain ⟨v,hG2,hF⟩:=QN (hs.loc e2 hlt) hsame aBb
 have ho:ops[e2]?=some ops[e2]:=Array.getElem?_eq_getElem hlt
 have hins:=hs.MN e2 _ (fun h=>h) ho
 have hdn:(ins e2).dst=none:=by rw [hi2];rfl
 have hdst:ops[e2].dst=none:=by
  have:(gK P H2 f ops ops[e2]).dst=ops[e2].dst:=Fq (by rw [←hins,hi2];intro e;cases e)
  rw [←this,←hins];exact hdn
 rw [hdn] at hF
 have hF2:jQ (yL ih) [] (gK P H2 f ops ops[e2]) F lo2 σ=.norm F lo2 (σ.set b (.cells ad8)):=by rw [←hins];exact hF
 have hcore:Core P Hn ops ins cls ms B0 g0 β0 σ0 w0 b0 lo2 σ Gr listed A w g β F pb:={ hi.inv.core with closed:=hcl }
 refine agd (ih:=yL ih) hm.call hm.app hm.idle hm.loc ho (hm.hdef ho) hi.inv.core.sc (by rw [hF2];simp) fun g' β' σ' aLc fr' A' w' hsc hst' hA he=>?_
 rw [hF2,rU] at he
 simp only [Out.norm.injEq] at he
 obtain ⟨rfl,rfl,rfl⟩:=he
 have hc2:=hcore.put (dj:=none) (v:=.undef) (zn:=Gr) hs (fun h=>h.elim) hr hdn (by have:=hf.c2;omega) rfl (fun t=>.inr ⟨by simp,rfl⟩) hsc hst' (by rw [hdst] at hA;exact hA)
 obtain ⟨hso,hok1⟩:=jL hi.ok
 obtain ⟨aNv,hok2⟩:=jL hok1
 have aA2:yO ms e1 e2 e1=ms e1:=Ip hf.ne
 have hd1:(ins e1).dst=none:=by rw [hi1];rfl
 have hz:∀ i,i<ops.size→cls i<2→¬done listed i→cls i=0:=fun i h1 h2 h3=>by
  by_cases hc:cls i=1
  ·exact absurd (hms i (hf.one i h1 hc)).2 h3
  ·omega
 refine hK A' w' g' β' [⟨[],[],[],none⟩] win [] (some e1) b0 jZ _ (σ.set b (.cells ad8)) ⟨⟨hc2,fun i hiw hn d hd=>?_,hi.inv.N9,fun i h1 h2 h3=>?_,fun e he=>?_,fun e h1 h2 h3=>?_⟩,fun i h1 h2 h3=>?_,⟨fun c hc=>(by cases hc),List.nodup_nil,fun e he=>?_,fun he=>(by cases he)⟩,?_,?_⟩
 ·have hn':¬done listed i:=fun h=>hn (dN.2 (.inl h))
  obtain ⟨u,hu,hl⟩:=hi.inv.idem i hiw hn' d hd
  obtain ⟨q1,q2⟩:=hi.inv.N9 i hiw
  obtain ⟨d',hd',hni⟩:=hs.low i q1 q2
  rw [hd] at hd';cases hd'
  rw [hz i q1 q2 hn'] at hni
  exact ⟨u,Nc hni hu _ _,hl⟩
 ·have hn':¬done listed i:=fun h=>h3 (dN.2 (.inl h))
  rcases hi.cov i h1 h2 hn' with h|h
  ·exact .inl h
  ·simp [pW] at h
 ·have he:e=e1:=by simpa [jE] using he
  subst he
  exact ⟨hf.lt1,hf.c1,fun h=>by rcases dN.1 h with h|h<;>first|exact hnd1 h|exact hf.ne h.symm⟩
 ·have hn':¬done listed e:=fun h=>h3 (dN.2 (.inl h))
  have:=hi.inv.Hq e h1 h2 hn'
  simp [jE] at this ⊢
  rcases this with h|h
  ·exact h
  ·exact absurd (dN.2 (.inr h.symm)) h3
 ·have hn':¬done listed i:=fun h=>h3 (dN.2 (.inl h))
  rcases hi.cov i h1 h2 hn' with h|h
  ·exact .inl h
  ·simp [pW] at h
 ·cases he
  obtain ⟨q1,q2,q3,q4⟩:=hi.cur.Ci e1 rfl
  rw [aA2] at q3 q4
  exact ⟨q1,q2,q3,q4⟩
 ·obtain ⟨_,hall⟩:=yY hok2
  have hdd:ou ins [e1]=[]:=by simp [ou,hd1]
  simp only [lX,au,List.append_nil,List.nil_append,Option.toList_some,Option.toList_none]
  have hsv:qL ms win (some e1)=qL (yO ms e1 e2) win (some e1):=by simp only [qL,aA2]
  refine ⟨⟨⟨⟨⟨⟨⟨⟨jy.2 fun i hiw=>?_,rfl⟩,rfl⟩,rfl⟩,rfl⟩,rfl⟩,rfl⟩,rfl⟩,rfl,jy.2 fun c hc=>?_⟩
  ·rw [hsv] at hiw
   have:=(hso.sv i hiw).2
   have hc1:cls i≠1:=fun h=>by have:=this h;simp at this
   simp only [au,gu,Bool.not_eq_true']
   refine ⟨xq.2 fun t ht=>?_,.inl ?_⟩
   ·rw [hdd];simp [ou]
   ·exact DZ hc1
  ·have:=hall c hc
   simpa [ng] using this
 ·have:bW ih [ins e1] Gr aLc (σ.set b (.cells ad8))=out:=by
   rw [hi1,r1,aIN,←hfin,H.set_comm _ _ _ hab]
   rfl
  exact this
theorem aoz (hout:out≠.fail) (hm:Gs P Hn H2 ops ro ih) (hs':Stat P H2 f ops ins cls (yO ms e1 e2) (fun j=>j=e2)) (hs:Stat P H2 f ops ins cls ms (fun _=>False)) (hf:SwF ins cls ms ops.size e1 e2 p1 p2 out) :
  ∀ (fuel:Nat) {rest:List iU} {win lD:List Nat} {eff:Option Nat} {b0 jZ:List Nat} {lo:Lo} {σ:H} {Gr:List V} {listed:Array Bool} {A:Act} {w:World} {g:G} {β:Nat→Option Nat} {F:List V} {pb:Nat→Nat},
  (og ops listed).length≤fuel→Mid P Hn ops ins cls (yO ms e1 e2) B0 g0 β0 σ0 w0 ih out rest win lD eff b0 jZ lo σ Gr listed A w g β F pb→SwI e1 e2 lD eff rest →
  wpAnyIn (Fw ro) 0 P .any ops (jR P (aQ P Hn) B0 g0 β0 σ0 w0 out) fuel listed A w:=by
 intro fuel
 induction fuel with
 |zero =>
  intro rest win lD eff b0 jZ lo σ Gr listed A w g β F pb hle hi hsi
  have hall:∀ i,i<ops.size→done listed i:=fun i hlt=>by
   by_cases hd:done listed i
   ·exact hd
   ·have:i∈og ops listed:=fK.2 ⟨List.mem_range.2 hlt,by simpa using hd⟩
    have:=List.length_pos_of_mem this
    omega
  refine ⟨?_,mid_end hs' hi hall⟩
  refine List.eq_nil_iff_forall_not_mem.2 fun j hj=>?_
  have hcl:Closed ops ms listed:=fun j hj hd i hb=>hi.inv.core.closed j hj hd i (Aj hb)
  obtain ⟨h1,h2,_⟩:=jP hs (fun h=>h.elim) hi.inv.core.size hcl hj
  exact h2 (hall j h1)
 |succ fuel ihf =>
  intro rest win lD eff b0 jZ lo σ Gr listed A w g β F pb hle hi hsi
  refine ⟨fun hnil=>mid_end hs' hi (ready_nil hi.inv.core.size hs.ayw hnil),fun j hj=>?_⟩
  have hcl:Closed ops ms listed:=fun j hj hd i hb=>hi.inv.core.closed j hj hd i (Aj hb)
  obtain ⟨h1,h2,h3⟩:=jP hs (fun h=>h.elim) hi.inv.core.size hcl hj
  have hlt:(og ops (listed.setIfInBounds j true)).length≤fuel:=by have:=DR h1 h2;omega
  by_cases hsp:j=e2∧¬done listed e1
  ·obtain ⟨rfl,hn1⟩:=hsp
   exact apA hout hm hs' hs hf hi hsi hj hn1 fun A' w' g' β' rest' YV aAj aAs b0' Jd lo' σ' hi'=>Zy (sw:=fun _=>False) (fun _ h=>h) hout hm hs fuel hlt hi'
  ·have hcov:∀ i,i<ops.size→cls i<2→¬done (listed.setIfInBounds j true) i→i∈win∨i∈pW rest:=fun i k1 k2 k3=>hi.cov i k1 k2 fun h=>k3 (dN.2 (.inl h))
   have hw:j=e2→∀ i,(yO ms e1 e2 j).testBit i=true→i<ops.size∧done listed i:=by
    rintro rfl i hb
    have hd1:done listed e1:=by
     by_cases h:done listed e1
     ·exact h
     ·exact absurd ⟨rfl,h⟩ hsp
    rcases aoJ hb with h|rfl|h
    ·exact h3 i h
    ·exact ⟨hf.lt1,hd1⟩
    ·exact hcl e1 hf.lt1 hd1 i h
   rcases hs.cl3 j with hc|hc|hc
   ·exact YQ hm hs' hi.inv (fun h=>by have:=hf.c2;rw [←h] at this;omega) hj hc fun A' w' g' β' F' hi'=>ihf hlt ⟨hi',hcov,hi.cur,hi.ok,hi.run⟩ hsi
   ·refine YP hout hm hs' hi hw (fun o h=>hs.MN j o (fun h=>h) h) hj hc fun A' w' g' β' F' s rest' YV b0' Jd lo' σ' zn hrs hi'=>ihf hlt hi' ?_
    subst hrs
    exact hsi.next
   ·exact ahi hs' hi.inv (fun h=>by have:=hf.c2;rw [←h] at this;omega) hj hc fun A' w' g' β' F' pb' hi'=>ihf hlt ⟨hi',hcov,hi.cur,hi.ok,hi.run⟩ hsi
end
section
open Go Go.RowKit
variable {P:Program} {Hn H2:Hints} {comp:FuncId→Code→aH} {g g' g'':G} {σ σ' oJ:H} {w w' w'':World} {β β' β'':Nat→Option Nat} {lo lo':Lo} {fr fr' F F':List V} {A A':Act} {B0:Nat} {ro:Option Nat}
theorem yV {ih:Ih}:∀ (l m:List Ins) (fr:List V) (lo:Lo) (σ:H),bW ih (l++m) fr lo σ=xE (bW ih m) (bW ih l fr lo σ)
 |[],m,fr,lo,σ=>rfl
 |i::l,m,fr,lo,σ=>by
  have key:∀ o,xE (bW ih (l++m)) o=xE (bW ih m) (xE (bW ih l) o):=by
   intro o
   cases o with
   |norm a b c=>exact yV l m a b c
   |_=>rfl
  cases i with
  |chk g t o =>
   have e1:∀ is:List Ins,bW ih (.chk g t o::is) fr lo σ=bif iM g t o fr lo σ then bW ih is fr lo σ else .fail:=fun _=>rfl
   rw [List.cons_append,e1,e1]
   cases iM g t o fr lo σ with
   |true=>exact yV l m fr lo σ
   |false=>rfl
  |_=>exact key _
theorem afN {p1 p2:Nat} {fr:List V} {lo:Lo} {σ:H} (h:fC p2 (.nS (.tmp p2) (.tmp p1)) fr lo σ=true):∃ a b o q,aO fr p1=.dF a o∧aO fr p2=.dF b q∧a≠b:=by
 unfold fC at h
 simp only [aZ,pI,aF.ev] at h
 cases h2:aO fr p2 with
 |dF b q =>
  rw [h2] at h
  dsimp only at h
  cases h1:aO fr p1 with
  |dF a o =>
   rw [h1] at h
   dsimp only at h
   cases hb:Nat.beq b a with
   |true=>rw [hb] at h;cases h
   |false=>exact ⟨a,b,o,q,rfl,rfl,fun e=>by rw [e,VR] at hb;cases hb⟩
  |_=>rw [h1] at h;cases h
 |_=>rw [h2] at h;cases h
theorem KE {i:Ins} {p:Nat} (h:storeAt i=some p):∃ k x,i=.op none (.store k (.tmp p) x):=by
 unfold storeAt at h
 split at h
 ·cases h;exact ⟨_,_,rfl⟩
 ·cases h
structure amF (ins:Nat→Ins) (cls ms:Nat→Nat) (n:Nat) (s:Swap):Prop where
 draw:zU ins cls (yO ms s.e1 s.e2) n s.l=true
 reads:PX ins cls ms n=true
 stages:AY s.e1 s.e2 s.l=true
 lt1:s.e1<n
 lt2:s.e2<n
 ne:s.e1≠s.e2
 nb:(ms s.e1).testBit s.e2=false
 c1:cls s.e1=2
 c2:cls s.e2=2
 oth:∀ e,e<n→cls e=2→e≠s.e1→e≠s.e2→(ms s.e2).testBit e=true
 one:∀ i,i<n→cls i=1→(ms s.e2).testBit i=true
 i1:storeAt (ins s.e1)=some s.p1
 i2:storeAt (ins s.e2)=some s.p2
theorem Uw {f:Nat} {ops:Array Oper} {s:Swap} (h:J3 P Hn f ops=some s) :
  amF (insOf P (gZ Hn) f ops) (jM P (gZ Hn) f ops) (yN ops) ops.size s∧nX ops.toList 0=true∧s.l≠[]:=by
 unfold J3 at h
 dsimp only at h
 split at h
 ·cases h
 ·rename_i e1 e2 _
  split at h
  ·rename_i p1 p2 h1 h2
   split at h
   ·rename_i hc
    cases h
    simp only [au,aC6] at hc
    obtain ⟨⟨⟨⟨⟨⟨⟨⟨⟨⟨⟨⟨d1,d2⟩,d3⟩,d4⟩,d5⟩,d6⟩,d7⟩,d8⟩,d9⟩,d10⟩,d11⟩,d12⟩,d13⟩:=hc
    refine ⟨⟨d1,d2,d3,by rwa [Nat.blt_eq] at d4,by rwa [Nat.blt_eq] at d5,fun e=>?_,by rw [Bool.not_eq_true'] at d7;exact d7,aJ d8,aJ d9,fun e he hce h3 h4=>?_,fun i hi hci=>?_,h1,h2⟩,d12,fun e=>?_⟩
    ·dsimp only at e;rw [e,VR] at d6;cases d6
    ·have:=jy.1 d10 e (List.mem_range.2 he)
     simp only [gu,Bool.not_eq_true'] at this
     rcases this with ((h|h)|h)|h
     ·have h':Nat.beq (jM P (gZ Hn) f ops e) 2=false:=h
      rw [hce] at h';cases h'
     ·exact absurd (aJ h) h3
     ·exact absurd (aJ h) h4
     ·exact h
    ·have:=jy.1 d11 i (List.mem_range.2 hi)
     simp only [gu,Bool.not_eq_true'] at this
     rcases this with h|h
     ·have h':Nat.beq (jM P (gZ Hn) f ops i) 1=false:=h
      rw [hci] at h';cases h'
     ·exact h
    ·dsimp only at e
     rw [e] at d13
     simp at d13
   ·cases h
  ·cases h
theorem Uz {ins:Nat→Ins} {cls ms:Nat→Nat} {n:Nat} (h:PX ins cls ms n=true):∀ i j t,i<n→j<n→cls i≠3→cls j≠2→(ins j).dst=some t→t∈(ins i).slots→(ms i).testBit j=true∧(cls i=2∨cls j≠3):=by
 intro i j t hi hj hci hcj hd ht
 have:=jy.1 h i (fK.2 ⟨List.mem_range.2 hi,F6 hci⟩)
 have:=jy.1 this j (fK.2 ⟨List.mem_range.2 hj,F6 hcj⟩)
 rw [hd] at this
 simp only [ng.2 ht,Bool.not_true,Bool.false_or,au,gu] at this
 refine ⟨this.1,?_⟩
 rcases this.2 with h|h
 ·exact .inl (aJ h)
 ·refine .inr fun e=>?_
  rw [e] at h;simp at h
theorem U7 {f:Nat} {ops:Array Oper} {ms:Nat→Nat} {sw:Nat→Prop} {l:List iU} {ms':Nat→Nat} (hf:Fa (insOf P H2 f ops) (jM P H2 f ops) ms' ops.size l) (hl:nX ops.toList 0=true)
  (hms:∀ i,¬sw i→ms i=yN ops i) (hsub:∀ i j,(yN ops i).testBit j=true→(ms i).testBit j=true)
  (hr:∀ i j t,i<ops.size→j<ops.size→jM P H2 f ops i≠3→jM P H2 f ops j≠2→(insOf P H2 f ops j).dst=some t→t∈(insOf P H2 f ops i).slots→(ms i).testBit j=true∧(jM P H2 f ops i=2∨jM P H2 f ops j≠3)) :
  Stat P H2 f ops (insOf P H2 f ops) (jM P H2 f ops) ms sw:=by
 have hget:∀ i,i<ops.size→ops[i]?=some ops[i]!:=fun i hi=>by simp [hi]
 refine ⟨fun i o _ h=>Eh h,fun i hi hc=>?_,fun i hi hc=>?_,fun i=>?_,fun i o j aIM ho hb=>?_,fun i j d hi hj hci hcj h1 h2=>?_,fun e i d he hi hce hci h1 h2=>?_,hr,hf.loc,fun i hc=>uU hc,fun i o ho e he hb=>?_⟩
 ·rw [su (hget i hi)] at hc ⊢
  exact Dn hc
 ·rw [su (hget i hi)] at hc
  exact Jv hc
 ·by_cases hi:i<ops.size
  ·have:=FP (o:=ops[i]!) (i:=insOf P H2 f ops i)
   rw [su (hget i hi)]
   omega
  ·by_cases hc:jM P H2 f ops i=2
   ·omega
   ·exact absurd (uU hc) hi
 ·rw [hms i aIM] at hb
  obtain ⟨e,he,hbe,h⟩:=BF (ops:=ops.toList) (by rw [Array.getElem?_toList];exact ho) hb
  refine ⟨e,Array.mem_toList_iff.1 he,hbe,?_⟩
  rcases h with h|h
  ·exact .inl h
  ·exact .inr (hsub _ _ h)
 ·refine D7 hf.nodup i ?_ j ?_ h1 h2 (List.Pairwise.filter _ List.nodup_range)
  ·exact fK.2 ⟨List.mem_range.2 hi,F6 hci⟩
  ·exact fK.2 ⟨List.mem_range.2 hj,F6 hcj⟩
 ·exact hf.axS d (jl.2 ⟨e,fK.2 ⟨List.mem_range.2 he,by simpa using hce⟩,h1⟩) (jl.2 ⟨i,fK.2 ⟨List.mem_range.2 hi,F6 hci⟩,h2⟩)
 ·have:=uw hl i o (by rw [Array.getElem?_toList];exact ho) e he hb
  omega
theorem aeb (Jr:P.follows .mixedOrders=true) (hidle:∀ q∈Hn.idle,wZ P q) {ih:Ih} (h0:La P Hn ih) {f id:Nat} {ops:Array Oper} {sp:Swap} (hp:J3 P Hn f ops=some sp) {fr:List V} {lo:Lo} {σ:H} {w:World} {g:G} {β:Nat→Option Nat} {A:Act} {B0:Nat} {ro:Option Nat}
  (hro:ro.isSome=true→yP ops=true) (hsc:Sc P (aQ P Hn) B0 g β σ lo fr A w)
  (hout:bW ih (flatten (insOf P (gZ Hn) f ops) sp.l++[.chk none sp.p2 (.nS (.tmp sp.p2) (.tmp sp.p1))]) fr lo σ≠.fail) :
  (Code.region id ops true).wpIn (Fw ro) 0 P (jR P (aQ P Hn) B0 g β σ w (bW ih (flatten (insOf P (gZ Hn) f ops) sp.l++[.chk none sp.p2 (.nS (.tmp sp.p2) (.tmp sp.p1))]) fr lo σ)) A w:=by
 obtain ⟨hfa,h2,h3⟩:=Uw hp
 rw [yV] at hout ⊢
 obtain ⟨F1,l1,σ1,RG⟩:∃ F l s,bW ih (flatten (insOf P (gZ Hn) f ops) sp.l) fr lo σ=.norm F l s:=by
  cases hq:bW ih (flatten (insOf P (gZ Hn) f ops) sp.l) fr lo σ with
  |norm a b c=>exact ⟨a,b,c,rfl⟩
  |_=>rw [hq] at hout;exact absurd rfl hout
 have hck:fC sp.p2 (.nS (.tmp sp.p2) (.tmp sp.p1)) F1 l1 σ1=true:=by
  rw [RG] at hout
  have e1:xE (bW ih [.chk none sp.p2 (.nS (.tmp sp.p2) (.tmp sp.p1))]) (.norm F1 l1 σ1)=bif fC sp.p2 (.nS (.tmp sp.p2) (.tmp sp.p1)) F1 l1 σ1 then .norm F1 l1 σ1 else .fail:=rfl
  rw [e1] at hout
  cases hc:fC sp.p2 (.nS (.tmp sp.p2) (.tmp sp.p1)) F1 l1 σ1 with
  |true=>rfl
  |false=>rw [hc] at hout;exact absurd rfl hout
 have hsame:xE (bW ih [.chk none sp.p2 (.nS (.tmp sp.p2) (.tmp sp.p1))]) (bW ih (flatten (insOf P (gZ Hn) f ops) sp.l) fr lo σ)=bW ih (flatten (insOf P (gZ Hn) f ops) sp.l) fr lo σ:=by
  rw [RG]
  have e1:xE (bW ih [.chk none sp.p2 (.nS (.tmp sp.p2) (.tmp sp.p1))]) (.norm F1 l1 σ1)=bif fC sp.p2 (.nS (.tmp sp.p2) (.tmp sp.p1)) F1 l1 σ1 then .norm F1 l1 σ1 else .fail:=rfl
  rw [e1,hck];rfl
 rw [hsame] at hout ⊢
 have hf:=yD hfa.draw
 have hs':Stat P (gZ Hn) f ops (insOf P (gZ Hn) f ops) (jM P (gZ Hn) f ops) (yO (yN ops) sp.e1 sp.e2) (fun j=>j=sp.e2):=U7 hf h2 (fun i hi=>Ip hi) (fun i j h=>Aj h) hf.reads
 have hs:Stat P (gZ Hn) f ops (insOf P (gZ Hn) f ops) (jM P (gZ Hn) f ops) (yN ops) (fun _=>False):=U7 hf h2 (fun _ _=>rfl) (fun _ _ h=>h) (Uz hfa.reads)
 have aBe:SwF (insOf P (gZ Hn) f ops) (jM P (gZ Hn) f ops) (yN ops) ops.size sp.e1 sp.e2 sp.p1 sp.p2 (bW ih (flatten (insOf P (gZ Hn) f ops) sp.l) fr lo σ) :=
  ⟨KE hfa.i1,KE hfa.i2,hfa.lt1,hfa.lt2,hfa.ne,hfa.nb,hfa.c1,hfa.c2,hfa.oth,hfa.one,fun F l s he=>by
   rw [RG] at he
   cases he
   exact afN hck⟩
 have aA9:=hfa.stages
 refine wpIn_region_any Jr ?_
 cases hpl:sp.l with
 |nil=>exact absurd hpl h3
 |cons s rest =>
 rw [hpl] at hf hout aBe aA9
 obtain ⟨hso,hok⟩:=jL hf.stages
 have hnd:∀ i,i<ops.size→¬done (Array.replicate ops.size false) i:=fun i hi h=>by
  unfold done at h
  simp [Array.getD,hi] at h
 have hnd':∀ i,jM P (gZ Hn) f ops i≠2→¬done (Array.replicate ops.size false) i:=fun i hc=>hnd i (hs.Jc i hc)
 have hcore:Core P Hn ops (insOf P (gZ Hn) f ops) (jM P (gZ Hn) f ops) (yO (yN ops) sp.e1 sp.e2) B0 g β σ w [] lo σ fr (Array.replicate ops.size false) A { w with drawn:=w.drawn+1 } g β fr (fun _=>0):=by
  refine ⟨by simp,fun j hj hd=>absurd hd (hnd j hj),hsc.drawn,.drawn,rfl,fun t=>.inl rfl,fun a ha=>by simp at ha,fun a d z ha _ hd=>absurd hd (hnd a ha),fun a a' ha _ _ _ hd=>absurd hd (hnd a ha)⟩
 have hout2:∀ e∈jE (s::rest),e<ops.size:=fun e he=>by
  simp only [jE,List.flatMap_cons,List.mem_append] at he
  rcases he with he|he
  ·exact (hso.cur.Ci e (by simpa [Option.mem_toList] using he)).2.1
  ·exact (mQ rest hok e he).2.1
 obtain ⟨zn,k1,k2,k3⟩:=enter (n:=ops.size) (aL:=II _ ops.size) hout hs' hso hok hcore rfl (fun i hi=>by simp [qL] at hi) (fun i hi=>by simp [qL] at hi) (fun i hi=>hnd' i (by have:=(hso.pre i hi).1;omega))
  (fun i h1 h2 _=>.inr (by rcases hf.cover i h1 with h|h|h<;>first|exact h.2|omega)) (fun e he=>hnd e (hout2 e he)) (fun e h1 h2 _=>by rcases hf.cover e h1 with h|h|h<;>first|exact h.2|omega) rfl
 have hsi:SwI sp.e1 sp.e2 s.lD s.eff rest:=SwI.next (lD:=[]) (eff:=none) ⟨fun h=>(by cases h),aA9⟩
 refine aoz (H2:=gZ Hn) (f:=f) hout ⟨h0.call,h0.app,hidle,h0.loc,hro⟩ hs' hs aBe ops.size ?_ ⟨k1,k3,hso.cur,hok,k2⟩ hsi
 unfold og
 exact Nat.le_trans (List.length_filter_le _ _) (by simp)
theorem aea (Jr:P.follows .mixedOrders=true) (hidle:∀ q∈Hn.idle,wZ P q) {ih:Ih} (h0:La P Hn ih) (l:List Ins) (fr:List V) (lo:Lo) (σ:H):Oc P Hn l fr lo σ (bW ih l fr lo σ):=by
 intro f id ops ro B0 g β A w hc hro hsc hout
 have hcd:IY P Hn f ops=l:=by
  have:(aH.draw (IY P Hn f ops))=.draw l:=by rw [←hc];rfl
  injection this
 cases hp:PS P Hn f ops with
 |none =>
  cases hp2:J3 P Hn f ops with
  |none =>
   have:l=[.op none .bad]:=by rw [←hcd];unfold IY;rw [hp,hp2]
   subst this
   exact absurd rfl hout
  |some sp =>
   have hfl:l=flatten (insOf P (gZ Hn) f ops) sp.l++[.chk none sp.p2 (.nS (.tmp sp.p2) (.tmp sp.p1))]:=by rw [←hcd];unfold IY;rw [hp,hp2];rfl
   subst hfl
   exact aeb Jr hidle h0 hp2 hro hsc hout
 |some pl =>
 have hfl:l=flatten (insOf P (gZ Hn) f ops) pl:=by rw [←hcd];unfold IY;rw [hp];rfl
 subst hfl
 obtain ⟨h1,h2,h3⟩:=Uu hp
 have hf:=yD h1
 have hs:=apz hf h2
 refine wpIn_region_any Jr ?_
 cases pl with
 |nil=>exact absurd rfl h3
 |cons s rest =>
 obtain ⟨hso,hok⟩:=jL hf.stages
 have hnd:∀ i,i<ops.size→¬done (Array.replicate ops.size false) i:=fun i hi h=>by
  unfold done at h
  simp [Array.getD,hi] at h
 have hnd':∀ i,jM P (gZ Hn) f ops i≠2→¬done (Array.replicate ops.size false) i:=fun i hc=>hnd i (hs.Jc i hc)
 have hcore:Core P Hn ops (insOf P (gZ Hn) f ops) (jM P (gZ Hn) f ops) (yN ops) B0 g β σ w [] lo σ fr (Array.replicate ops.size false) A { w with drawn:=w.drawn+1 } g β fr (fun _=>0):=by
  refine ⟨by simp,fun j hj hd=>absurd hd (hnd j hj),hsc.drawn,.drawn,rfl,fun t=>.inl rfl,fun a ha=>by simp at ha,fun a d z ha _ hd=>absurd hd (hnd a ha),fun a a' ha _ _ _ hd=>absurd hd (hnd a ha)⟩
 have hout2:∀ e∈jE (s::rest),e<ops.size:=fun e he=>by
  simp only [jE,List.flatMap_cons,List.mem_append] at he
  rcases he with he|he
  ·exact (hso.cur.Ci e (by simpa [Option.mem_toList] using he)).2.1
  ·exact (mQ rest hok e he).2.1
 obtain ⟨zn,k1,k2,k3⟩:=enter (n:=ops.size) (aL:=II _ ops.size) hout hs hso hok hcore rfl (fun i hi=>by simp [qL] at hi) (fun i hi=>by simp [qL] at hi) (fun i hi=>hnd' i (by have:=(hso.pre i hi).1;omega))
  (fun i h1 h2 _=>.inr (by rcases hf.cover i h1 with h|h|h<;>first|exact h.2|omega)) (fun e he=>hnd e (hout2 e he)) (fun e h1 h2 _=>by rcases hf.cover e h1 with h|h|h<;>first|exact h.2|omega) rfl
 refine Zy (H2:=gZ Hn) (f:=f) (sw:=fun _=>False) (fun _ h=>h) hout ⟨h0.call,h0.app,hidle,h0.loc,hro⟩ hs ops.size ?_ ⟨k1,k3,hso.cur,hok,k2⟩
 unfold og
 exact Nat.le_trans (List.length_filter_le _ _) (by simp)
end
section
open Go Go.RowKit
variable {P:Program} {Hn H2:Hints} {comp:FuncId→Code→aH} {g g' g'':G} {σ σ' oJ:H} {w w' w'':World} {β β' β'':Nat→Option Nat} {lo lo':Lo} {fr fr' F F':List V} {A A':Act} {B0:Nat} {ro:Option Nat}
mutual
def aW:V→Bool
 |.dF _ _=>false
 |.hsl _ _ _ _ _=>false
 |.map _=>false
 |.func (.func _) a b=>bT a&&bT b
 |.func _ _ _=>false
 |.iface _ v=>aW v
 |.agg cs=>bT cs
 |.tuple cs=>bT cs
 |.gX cs=>bT cs
 |.list xs _=>bT xs
 |_=>true
def bT:List V→Bool
 |[]=>true
 |v::vs=>aW v&&bT vs
end
theorem mJ:∀ {l:List V} {i:Nat} {v:V},bT l=true→l[i]?=some v→aW v=true
 |[],i,v,_,h=>by simp at h
 |x::xs,i,v,hf,h=>by
  simp only [bT,au] at hf
  cases i with
  |zero=>simp at h;subst h;exact hf.1
  |succ i=>simp at h;exact mJ hf.2 h
theorem Rl {x c:V} {j:Nat} (h:aW x=true) (hc:x.cells[j]?=some c):aW c=true:=by
 have single:∀ y:V,[y][j]?=some c→aW y=true→aW c=true:=by
  intro y hy hf
  cases j with
  |zero=>simp at hy;subst hy;exact hf
  |succ j=>simp at hy
 cases x with
 |agg cs=>exact mJ (l:=cs) (by simpa [aW] using h) hc
 |_=>exact single _ hc h
theorem Rv.flat {v:V} {x:Value} (hφ:∀ b o y,g.φ b o=some y→g'.φ b o=some y) (hpn:∀ k,g'.pin k→g.pin k) (h:Rv g v x):aW v=true→Rv g' v x:=by
 induction h with
 |undef w=>intro _;exact .undef w
 |bool b=>intro _;exact .bool b
 |int k n=>intro _;exact .int k n
 |str bs=>intro _;exact .str bs
 |nilPtr=>intro _;exact .nilPtr
 |dF off h=>intro hf;simp [aW] at hf
 |gX vs h hr ih=>intro hf;exact .gX vs (fun j c e=>hφ _ _ _ (h j c e)) fun j c e=>ih j c e (mJ (by simpa [aW] using hf) e)
 |aj=>intro _;exact .aj
 |list k vs hk hc he hp h hr ih=>intro hf;exact .list k vs hk hc he (fun x hx e hq=>hp x hx e (hpn _ hq)) (fun i x j c e e'=>hφ _ _ _ (h i x j c e e')) fun i x j c e e'=>ih i x j c e e' (Rl (mJ (by simpa [aW] using hf) e) e')
 |hsl h hl hc hn=>intro hf;simp [aW] at hf
 |dV=>intro _;exact .dV
 |map h=>intro hf;simp [aW] at hf
 |nilFunc=>intro _;exact .nilFunc
 |func hf ha hb has hbs i1 i2 =>
  intro hfl
  cases hf with
  |yield h=>simp [aW] at hfl
  |func f =>
   simp only [aW,au] at hfl
   exact .func (.func f) ha hb (fun i v w a b=>i1 i v w a b (mJ hfl.1 a)) fun i v w a b=>i2 i v w a b (mJ hfl.2 a)
 |nilIface=>intro _;exact .nilIface
 |iface t h ih=>intro hf;exact .iface t (ih (by simpa [aW] using hf))
 |agg hl h ih=>intro hf;exact .agg hl fun i v w a b=>ih i v w a b (mJ (by simpa [aW] using hf) a)
 |tuple hl h ih=>intro hf;exact .tuple hl fun i v w a b=>ih i v w a b (mJ (by simpa [aW] using hf) a)
def emp:H:=⟨0,.leaf⟩
theorem yE (i:Nat):emp.get i=none:=rfl
theorem zV {b:Nat}:¬Live g emp b:=by rintro ⟨i,n,h,_⟩;rw [yE] at h;cases h
theorem Nz {v:V} {σ1:H} {x:Value} (hv:aW v=true) (hw:Rw P (aQ P Hn) g σ w) (h:uS P Hn { g with ρ:=fun _=>none } emp w v σ1 x w'):uS P Hn g σ w v σ x w':=by
 obtain ⟨g1,h1,h2,h3⟩:=h
 have hle:g.le { g1 with ρ:=g.ρ }:=⟨fun _ _ h=>h,h3.le.φ,h3.le.pin⟩
 refine ⟨{ g1 with ρ:=g.ρ },Rv.flat (g:=g1) (fun _ _ _ h=>h) (fun _ h=>h) h1 hv,⟨h2.frozen,fun i ob hi=>?_,hw.inj,hw.fresh,fun i b n h=>Nat.lt_of_lt_of_le (hw.bound i b n h) h3.nI.size⟩,⟨hle,⟨h3.nI.os,h3.nI.tape,h3.nI.output,h3.nI.size,fun k hk hl hb hp=>?_⟩,fun b hb _=>hb,fun t b h=>(by cases h),fun b hb hp hl=>?_⟩⟩
 ·obtain ⟨b,n,k1,k2,k3⟩:=hw.objs i ob hi
  have hlt:=hw.bound i b n k1
  exact ⟨b,n,k1,k2.mono hle (h3.nI.block b hlt zV (by rintro ⟨t,h⟩;cases h) (.inl k3)),h3.phi b hlt k3 zV⟩
 ·exact h3.nI.block k hk zV (by rintro ⟨t,h⟩;cases h) hp
 ·exact h3.phi b hb hp zV
theorem Di {f:FuncId} {args:List V} {v:V} {σ1:H} (hc:nM P Hn f args emp (.val v σ1)) (ha:bT args=true) (hv:aW v=true) (σ:H):nM P Hn f args σ (.val v σ):=by
 intro g As w v' σ' hargs hw e
 cases e
 have ha':kK { g with ρ:=fun _=>none } args As.toList:=⟨hargs.1,fun i v w a b=>Rv.flat (g:=g) (fun _ _ _ h=>h) (fun _ h=>h) (hargs.2 i v w a b) (mJ ha a)⟩
 have hw':Rw P (aQ P Hn) { g with ρ:=fun _=>none } emp w:=⟨hw.frozen,fun i ob h=>(by rw [yE] at h;cases h),fun i j b n m h=>(by rw [yE] at h;cases h),fun i _=>⟨rfl,rfl⟩,fun i b n h=>(by cases h)⟩
 rcases hc { g with ρ:=fun _=>none } As w v σ1 ha' hw' rfl with ⟨h1,h2⟩|⟨h1,x,w',h2,h3⟩
 ·exact .inl ⟨h1,CallsIn.mono h2 fun e w' he=>by cases e<;>first|exact Nz hv hw he|exact he.elim⟩
 ·exact .inr ⟨h1,x,w',h2,Nz hv hw h3⟩
noncomputable def l9 (l:V):V→Bool:=V.rec (motive_1:=fun _=>V→Bool) (motive_2:=fun _=>List V→Bool)
 (fun y=>match y with|.undef=>true|_=>false)
 (fun a y=>match y with|.bool b=>(bif a then b else !b)|_=>false)
 (fun k a y=>match y with|.int l b=>eqK k l&&vZ a b|_=>false)
 (fun a y=>match y with|.str b=>kU a b|_=>false)
 (fun y=>match y with|.nilPtr=>true|_=>false)
 (fun a b y=>match y with|.bf c d=>Nat.beq a c&&Nat.beq b d|_=>false)
 (fun a b y=>match y with|.dF c d=>Nat.beq a c&&Nat.beq b d|_=>false)
 (fun _ ih y=>match y with|.gX b=>ih b|_=>false)
 (fun y=>match y with|.aj=>true|_=>false)
 (fun _ x ih y=>match y with|.list b z=>(bif x then z else !z)&&ih b|_=>false)
 (fun a b c x d y=>match y with|.hsl a' b' c' x' d'=>Nat.beq a a'&&Nat.beq b b'&&Nat.beq c c'&&Nat.beq d d'&&eqO x x'|_=>false)
 (fun y=>match y with|.dV=>true|_=>false)
 (fun a y=>match y with|.map b=>Nat.beq a b|_=>false)
 (fun y=>match y with|.nilFunc=>true|_=>false)
 (fun fn _ _ iha ihb y=>match fn,y with|.func f,.func (.func g) c d=>Nat.beq f g&&iha c&&ihb d|_,_=>false)
 (fun y=>match y with|.nilIface=>true|_=>false)
 (fun t _ ih y=>match y with|.iface u b=>Nat.beq t u&&ih b|_=>false)
 (fun _ ih y=>match y with|.agg b=>ih b|_=>false)
 (fun _ ih y=>match y with|.tuple b=>ih b|_=>false)
 (fun ys=>match ys with|[]=>true|_::_=>false)
 (fun _ _ ihv ihl ys=>match ys with|[]=>false|y::ys=>bif ihv y then ihl ys else false) l
noncomputable def yG (l:List V):List V→Bool:=V.rec_1 (motive_1:=fun _=>V→Bool) (motive_2:=fun _=>List V→Bool)
 (fun y=>match y with|.undef=>true|_=>false)
 (fun a y=>match y with|.bool b=>(bif a then b else !b)|_=>false)
 (fun k a y=>match y with|.int l b=>eqK k l&&vZ a b|_=>false)
 (fun a y=>match y with|.str b=>kU a b|_=>false)
 (fun y=>match y with|.nilPtr=>true|_=>false)
 (fun a b y=>match y with|.bf c d=>Nat.beq a c&&Nat.beq b d|_=>false)
 (fun a b y=>match y with|.dF c d=>Nat.beq a c&&Nat.beq b d|_=>false)
 (fun _ ih y=>match y with|.gX b=>ih b|_=>false)
 (fun y=>match y with|.aj=>true|_=>false)
 (fun _ x ih y=>match y with|.list b z=>(bif x then z else !z)&&ih b|_=>false)
 (fun a b c x d y=>match y with|.hsl a' b' c' x' d'=>Nat.beq a a'&&Nat.beq b b'&&Nat.beq c c'&&Nat.beq d d'&&eqO x x'|_=>false)
 (fun y=>match y with|.dV=>true|_=>false)
 (fun a y=>match y with|.map b=>Nat.beq a b|_=>false)
 (fun y=>match y with|.nilFunc=>true|_=>false)
 (fun fn _ _ iha ihb y=>match fn,y with|.func f,.func (.func g) c d=>Nat.beq f g&&iha c&&ihb d|_,_=>false)
 (fun y=>match y with|.nilIface=>true|_=>false)
 (fun t _ ih y=>match y with|.iface u b=>Nat.beq t u&&ih b|_=>false)
 (fun _ ih y=>match y with|.agg b=>ih b|_=>false)
 (fun _ ih y=>match y with|.tuple b=>ih b|_=>false)
 (fun ys=>match ys with|[]=>true|_::_=>false)
 (fun _ _ ihv ihl ys=>match ys with|[]=>false|y::ys=>bif ihv y then ihl ys else false) l
theorem uh (l:List V):∀ b,yG l b=true→l=b:=by
 refine V.rec_1 (motive_1:=fun v=>∀ y,l9 v y=true→v=y) (motive_2:=fun l=>∀ y,yG l y=true→l=y) ?_ ?_ ?_ ?_ ?_ ?_ ?_ ?_ ?_ ?_ ?_ ?_ ?_ ?_ ?_ ?_ ?_ ?_ ?_ ?_ ?_ l
 ·intro y h;cases y<;>first|rfl|cases h
 ·intro a y h;cases y<;>first|(cases h;done)|skip
  rename_i b;cases a<;>cases b<;>first|rfl|cases h
 ·intro k a y h;cases y<;>first|(cases h;done)|skip
  rename_i l b
  change (eqK k l&&vZ a b)=true at h
  rw [kP,qW] at h
  simp at h
  rw [h.1,h.2]
 ·intro a y h;cases y<;>first|(cases h;done)|skip
  rename_i b
  change kU a b=true at h
  rw [pJ] at h
  rw [beq_iff_eq.1 h]
 ·intro y h;cases y<;>first|rfl|cases h
 ·intro a b y h;cases y<;>first|(cases h;done)|skip
  rename_i c d
  change (Nat.beq a c&&Nat.beq b d)=true at h
  simp at h;rw [h.1,h.2]
 ·intro a b y h;cases y<;>first|(cases h;done)|skip
  rename_i c d
  change (Nat.beq a c&&Nat.beq b d)=true at h
  simp at h;rw [h.1,h.2]
 ·intro a ih y h;cases y<;>first|(cases h;done)|skip
  rename_i b;rw [ih b h]
 ·intro y h;cases y<;>first|rfl|cases h
 ·intro a x ih y h;cases y<;>first|(cases h;done)|skip
  rename_i b z
  change ((bif x then z else !z)&&yG a b)=true at h
  simp only [au] at h
  rw [ih b h.2]
  have:x=z:=by cases x<;>cases z<;>simp_all
  rw [this]
 ·intro a b c x d y h;cases y<;>first|(cases h;done)|skip
  rename_i a' b' c' x' d'
  change (Nat.beq a a'&&Nat.beq b b'&&Nat.beq c c'&&Nat.beq d d'&&eqO x x')=true at h
  simp only [au,Nat.beq_eq] at h
  have h4:x=x':=by cases x<;>cases x'<;>simp_all [eqO]
  rw [h.1.1.1.1,h.1.1.1.2,h.1.1.2,h.1.2,h4]
 ·intro y h;cases y<;>first|rfl|cases h
 ·intro a y h;cases y<;>first|(cases h;done)|skip
  rename_i b
  rw [aJ (show Nat.beq a b=true from h)]
 ·intro y h;cases y<;>first|rfl|cases h
 ·intro fn a b iha ihb y h
  cases fn<;>cases y<;>first|(cases h;done)|skip
  rename_i f fn' c d
  cases fn'<;>first|(cases h;done)|skip
  rename_i g
  change (Nat.beq f g&&yG a c&&yG b d)=true at h
  simp only [au,Nat.beq_eq] at h
  rw [h.1.1,iha c h.1.2,ihb d h.2]
 ·intro y h;cases y<;>first|rfl|cases h
 ·intro t a ih y h;cases y<;>first|(cases h;done)|skip
  rename_i u b
  change (Nat.beq t u&&l9 a b)=true at h
  simp only [au,Nat.beq_eq] at h
  rw [h.1,ih b h.2]
 ·intro a ih y h;cases y<;>first|(cases h;done)|skip
  rename_i b;rw [ih b h]
 ·intro a ih y h;cases y<;>first|(cases h;done)|skip
  rename_i b;rw [ih b h]
 ·intro y h;cases y<;>first|rfl|cases h
 ·intro a l iha ihl y h;cases y<;>first|(cases h;done)|skip
  rename_i b m
  change (bif l9 a b then yG l m else false)=true at h
  cases hq:l9 a b with
  |false=>rw [hq] at h;cases h
  |true=>rw [hq] at h;rw [iha b hq,ihl m h]
structure MF where
 f:List V→Option V
abbrev iO:=Nat→Option MF
noncomputable def recall:List (List V×V)→List V→Option V
 |[],_=>none
 |(a,v)::r,args=>bif yG a args then some v else recall r args
noncomputable def aG (mm:iO) (f:Nat) (args:List V):Option V:=match mm f with
 |none=>none
 |some m=>m.f args
noncomputable def stepM (mm:iO) (fns:Nat→Option ak) (ih:Ih) (c:Cmd):List V→Lo→H→Out:=match c with
 |.call f args=>fun _ _ h=>match aG mm f args with
  |some v=>.val v h
  |none=>sQ fns ih f args h
 |c=>step fns ih c
noncomputable def runM (mm:iO) (fns:Nat→Option ak) (n:Nat):Ih:=Nat.rec (motive:=fun _=>Ih) (fun _ _ _ _=>.fail) (fun _ ih=>stepM mm fns ih) n
def qR (P:Program) (Hn:Hints) (mm:iO):Prop:=∀ f args v,aG mm f args=some v→∀ σ,nM P Hn f args σ (.val v σ)
theorem Ko:∀ {l:List (List V×V)} {args:List V} {v:V},recall l args=some v→(args,v)∈l
 |[],_,_,h=>by cases h
 |(a,u)::r,args,v,h=>by
  simp only [recall] at h
  cases he:yG a args with
  |true =>
   rw [he] at h
   simp only [cond_true,aC] at h
   subst h
   rw [uh _ _ he]
   exact fF
  |false=>rw [he] at h;exact eX _ (Ko h)
theorem ac0 {ih:Ih} {mm:iO} {fns:Nat→Option ak} (Jr:P.follows .mixedOrders=true) (hmm:qR P Hn mm) (RF:∀ f vf,fns f=some vf→Gv P Hn f=some vf) (hext:∀ f vf,fns f=some vf→vf.ext≠0→Gq P Hn f vf) (hidle:∀ q∈Hn.idle,wZ P q)
  (h0:La P Hn ih):La P Hn (stepM mm fns ih) :=
 have h1:=ahb RF hext hidle (fun ih h0 l fr lo σ=>aea Jr hidle h0 l fr lo σ) h0
 {code:=h1.code,ops:=h1.ops,draws:=h1.draws,app:=h1.app,scope:=h1.scope,loc:=h1.loc,bad:=h1.bad
  call:=fun f args σ=>by
   simp only [stepM]
   cases hr:aG mm f args with
   |none=>exact h1.call f args σ
   |some v=>exact hmm f args v hr σ }
theorem AU {mm:iO} {fns:Nat→Option ak} (Jr:P.follows .mixedOrders=true) (hmm:qR P Hn mm) (RF:∀ f vf,fns f=some vf→Gv P Hn f=some vf) (hext:∀ f vf,fns f=some vf→vf.ext≠0→Gq P Hn f vf) (hidle:∀ q∈Hn.idle,wZ P q):∀ n,La P Hn (runM mm fns n)
 |0=>{
   code:=by intro vc fr lo σ f c ro B0 g β A w hc hfl hsc hne;exact absurd rfl hne
   ops:=by intro l fr lo σ f ops idx ro B0 g β A w hl hro hsc hne;exact absurd rfl hne
   draws:=by intro l fr lo σ f id ops ro B0 g β A w hc hro hsc hne;exact absurd rfl hne
   call:=by intro f args σ g As w v σ' ha hw e;cases e
   app:=by intro fv args σ g X As w v σ' hf ha hw e;cases e
   scope:=by intro vc vr fr lo σ f c r ro B0 g β A w hc hr hfc hfr hsc hne;exact absurd rfl hne
   loc:=fun _ _ _ _=>rfl
   bad:=fun _ _ _=>rfl }
 |n+1=>ac0 Jr hmm RF hext hidle (AU Jr hmm RF hext hidle n)
theorem aoI {mm:iO} {fns:Nat→Option ak} (hs:∀ n,La P Hn (runM mm fns n)) {n:Nat} {f:FuncId} {args:List V} {v:V} (h:(match runM mm fns n (.call f args) [] [] emp with|.val u _=>l9 u v|_=>false)=true) (ha:bT args=true) (hv:aW v=true) (σ:H):nM P Hn f args σ (.val v σ):=by
 have hc:=(hs n).call f args emp
 cases ho:runM mm fns n (.call f args) [] [] emp with
 |val u σ1 =>
  rw [ho] at h hc
  have h2:yG [u] [v]=true:=by
   have h3:l9 u v=true:=h
   change (bif l9 u v then true else false)=true
   rw [h3];rfl
  have:=(List.cons.inj (uh _ _ h2)).1
  subst this
  exact Di hc ha hv σ
 |_=>rw [ho] at h;cases h
end
section
open Go
mutual
def sub (ρ:V→V):V→V
 |.undef=>.undef
 |.bool b=>.bool b
 |.int k n=>.int k n
 |.str s=>.str s
 |.nilPtr=>.nilPtr
 |.bf t o=>.bf t o
 |.dF i o=>.dF i o
 |.gX cs=>.gX (subs ρ cs)
 |.aj=>.aj
 |.list xs e=>.list (subs ρ xs) e
 |.hsl a b c d e=>.hsl a b c d e
 |.dV=>.dV
 |.map i=>.map i
 |.nilFunc=>.nilFunc
 |.func fn a b=>.func fn (subs ρ a) (subs ρ b)
 |.nilIface=>.nilIface
 |.iface t v=>bif Nat.beq t 1000000 then ρ v else .iface t (sub ρ v)
 |.agg cs=>.agg (subs ρ cs)
 |.tuple cs=>.tuple (subs ρ cs)
def subs (ρ:V→V):List V→List V
 |[]=>[]
 |v::vs=>sub ρ v::subs ρ vs
end
def fD:V→Bool
 |.bool _=>true
 |.int _ _=>true
 |.str _=>true
 |.aj=>true
 |.list _ _=>true
 |_=>false
class Good (ρ:V→V):Prop where
 plain:∀ v,fD (ρ v)=true
 flat:∀ v,aW (ρ v)=true
variable {ρ:V→V}
mutual
theorem D9:∀ v:V,aW v=true→mY v v=true
 |.undef,_=>by simp only [mY]
 |.bool b,_=>by cases b<;>simp [mY]
 |.int k n,_=>by simp only [mY,kP,qW];simp
 |.str s,_=>by simp only [mY,pJ];simp
 |.nilPtr,_=>by simp only [mY]
 |.bf _ _,_=>by simp [mY]
 |.dF _ _,h=>by simp [aW] at h
 |.gX cs,h=>by simp only [mY];exact qV cs (by simpa [aW] using h)
 |.aj,_=>by simp only [mY]
 |.list xs e,h=>by
  simp only [mY,qV xs (by simpa [aW] using h),Bool.and_true]
  cases e<;>rfl
 |.hsl _ _ _ _ _,h=>by simp [aW] at h
 |.dV,_=>by simp only [mY]
 |.map _,h=>by simp [aW] at h
 |.nilFunc,_=>by simp only [mY]
 |.func fn a b,h=>by
  cases fn with
  |func f =>
   simp only [aW,au] at h
   simp only [mY,qV a h.1,qV b h.2,Bool.and_true]
   simp
  |_=>simp [aW] at h
 |.nilIface,_=>by simp only [mY]
 |.iface t v,h=>by
  simp only [mY,D9 v (by simpa [aW] using h),Bool.and_true]
  simp
 |.agg cs,h=>by simp only [mY];exact qV cs (by simpa [aW] using h)
 |.tuple cs,h=>by simp only [mY];exact qV cs (by simpa [aW] using h)
theorem qV:∀ l:List V,bT l=true→xu l l=true
 |[],_=>by simp only [xu]
 |v::l,h=>by
  simp only [bT,au] at h
  simp only [xu,D9 v h.1,qV l h.2,Bool.and_self]
end
theorem jf (p:V):sub ρ (.iface 1000000 p)=ρ p:=by simp [sub]
theorem jr (t:Nat) (v:V):sub ρ (.iface t v)=bif Nat.beq t 1000000 then ρ v else .iface t (sub ρ v):=by simp [sub]
theorem KJ (l:List V):subs ρ l=l.map (sub ρ):=by
 induction l with
 |nil=>simp [subs]
 |cons v l ih=>simp [subs,ih]
theorem yh:subs ρ []=[]:=by simp [subs]
theorem uQ (v:V) (l:List V):subs ρ (v::l)=sub ρ v::subs ρ l:=by simp [subs]
theorem iy (l:List V):(subs ρ l).length=l.length:=by simp [KJ]
theorem qm (a b:List V):subs ρ (a++b)=subs ρ a++subs ρ b:=by simp [KJ]
theorem jd [Good ρ] (p:V):(∃ b,ρ p=.bool b)∨(∃ k n,ρ p=.int k n)∨(∃ s,ρ p=.str s)∨ρ p=.aj∨∃ xs e,ρ p=.list xs e:=by
 have h:=Good.plain (ρ:=ρ) p
 cases hq:ρ p<;>rw [hq] at h<;>simp [fD] at h<;>simp
theorem uP [Good ρ] (v:V):(sub ρ v).cells=subs ρ v.cells:=by
 cases v with
 |iface t w =>
  simp only [jr,V.cells,subs]
  cases Nat.beq t 1000000 with
  |false=>simp [V.cells]
  |true =>
   simp only [cond_true]
   rcases jd (ρ:=ρ) w with ⟨b,h⟩|⟨k,n,h⟩|⟨s,h⟩|h|⟨xs,e,h⟩<;>rw [h]<;>rfl
 |_=>simp [sub,subs,V.cells]
theorem FQ [Good ρ] (v:V):bY (sub ρ v)=bY v:=by
 cases v with
 |iface t w =>
  simp only [jr,bY]
  cases Nat.beq t 1000000 with
  |false=>rfl
  |true =>
   simp only [cond_true]
   rcases jd (ρ:=ρ) w with ⟨b,h⟩|⟨k,n,h⟩|⟨s,h⟩|h|⟨xs,e,h⟩<;>rw [h]<;>rfl
 |_=>simp [sub,bY]
theorem ao4 [Good ρ] (v:V):yT (sub ρ v)=yT v:=by
 cases v with
 |iface t w =>
  simp only [jr,yT]
  cases Nat.beq t 1000000 with
  |false=>rfl
  |true =>
   simp only [cond_true]
   rcases jd (ρ:=ρ) w with ⟨b,h⟩|⟨k,n,h⟩|⟨s,h⟩|h|⟨xs,e,h⟩<;>rw [h]<;>rfl
 |_=>simp [sub,yT]
theorem Aq [Good ρ]:∀ l:List V,dO (subs ρ l)=dO l
 |[]=>by simp [subs,dO]
 |v::l=>by simp only [subs,dO,ao4,Aq l]
theorem qU [Good ρ]:∀ l:List V,iD (subs ρ l)=iD l
 |[]=>by simp [subs,iD]
 |v::l=>by
  cases v with
  |iface t w =>
   simp only [subs,jr,iD]
   cases Nat.beq t 1000000 with
   |false=>simp only [cond_false,qU l]
   |true =>
    simp only [cond_true]
    rcases jd (ρ:=ρ) w with ⟨b,h⟩|⟨k,n,h⟩|⟨s,h⟩|h|⟨xs,e,h⟩<;>rw [h]<;>simp only [qU l]
  |_=>simp only [subs,sub,iD,qU l]
theorem JQ [Good ρ] {α:Type} (v:V) (a:α) (f:V→α):(match sub ρ v with|.bf _ _=>a|.undef=>a|v=>f v)=match v with|.bf _ _=>a|.undef=>a|_=>f (sub ρ v):=by
 cases v with
 |iface t w =>
  simp only [jr]
  cases Nat.beq t 1000000 with
  |false=>rfl
  |true =>
   simp only [cond_true]
   rcases jd (ρ:=ρ) w with ⟨b,h⟩|⟨k,n,h⟩|⟨s,h⟩|h|⟨xs,e,h⟩<;>rw [h]
 |_=>simp [sub]
theorem sG:∀ (l:List V) (n:Nat),aO (subs ρ l) n=sub ρ (aO l n)
 |[],n=>by simp [subs,Eu,sub]
 |v::l,0=>by simp [subs,kF]
 |v::l,n+1=>by simp only [subs,iL,sG l n]
theorem Ey:∀ (l:List V) (n:Nat) (v:V),jW (subs ρ l) n (sub ρ v)=subs ρ (jW l n v)
 |[],n,v=>by simp [subs,sH]
 |x::l,0,v=>by simp [subs,nK]
 |x::l,n+1,v=>by simp only [subs,lT,Ey l n]
theorem He:∀ (cs vs:List V),bG (subs ρ cs) (subs ρ vs)=(bG cs vs).map (subs ρ)
 |cs,[]=>by cases cs<;>simp [subs,bG]
 |[],v::vs=>by simp [subs,bG]
 |c::cs,v::vs=>by
  simp only [subs,bG,He cs vs]
  cases bG cs vs<;>simp [subs]
theorem pY:∀ (n:Nat) (cs vs:List V),splice n (subs ρ cs) (subs ρ vs)=(splice n cs vs).map (subs ρ)
 |0,cs,vs=>by simp only [splice,He]
 |n+1,[],vs=>by simp [subs,splice]
 |n+1,c::cs,vs=>by
  simp only [subs,splice,pY n cs vs]
  cases splice n cs vs<;>simp [subs]
theorem oI:∀ (n:Nat) (cs:List V),takeN n (subs ρ cs)=(takeN n cs).map (subs ρ)
 |0,cs=>by simp [takeN,subs]
 |n+1,[]=>by simp [takeN,subs]
 |n+1,c::cs=>by
  simp only [subs,takeN,oI n cs]
  cases takeN n cs<;>simp [subs]
theorem pF:∀ (n:Nat) (cs:List V),skip n (subs ρ cs)=subs ρ (skip n cs)
 |0,cs=>by simp [skip]
 |n+1,[]=>by simp [skip,subs]
 |n+1,c::cs=>by simp only [subs,skip,pF n cs]
theorem GU (n:Nat) (cs:List V):bn n (subs ρ cs)=(bn n cs).map (sub ρ):=by
 simp only [bn,pF]
 cases skip n cs<;>simp [subs]
theorem ayB (ag:Bool) (o:Option (List V)):mk ag (o.map (subs ρ))=(mk ag o).map (sub ρ):=by
 cases o with
 |none=>rfl
 |some cs =>
  cases ag with
  |true=>simp [mk,sub]
  |false =>
   match cs with
   |[]=>simp [mk,subs]
   |[c]=>simp [mk,subs]
   |c::d::r=>simp [mk,subs]
theorem Wj [Good ρ] (x:List V):elemOf (subs ρ x)=sub ρ (elemOf x):=by
 match x with
 |[]=>simp [elemOf,subs,sub]
 |c::d::r=>simp [elemOf,subs,sub]
 |[c] =>
  cases c with
  |iface t w =>
   simp only [elemOf,subs,jr]
   cases Nat.beq t 1000000 with
   |false=>rfl
   |true =>
    simp only [cond_true]
    rcases jd (ρ:=ρ) w with ⟨b,h⟩|⟨k,n,h⟩|⟨s,h⟩|h|⟨xs,e,h⟩<;>rw [h]
  |_=>simp [elemOf,subs,sub]
theorem FB [Good ρ] (sz:Nat):∀ (n:Nat) (cs:List V),chunk sz n (subs ρ cs)=(chunk sz n cs).map (subs ρ)
 |0,cs=>by simp [chunk,subs]
 |n+1,cs=>by
  simp only [chunk,oI,pF]
  cases takeN sz cs with
  |none=>rfl
  |some x =>
   simp only [bP,FB sz n]
   cases chunk sz n (skip sz cs)<;>simp [subs,Wj]
theorem Bv [Good ρ]:∀ l:List V,sU (subs ρ l)=subs ρ (sU l)
 |[]=>by simp [subs,sU]
 |x::l=>by
  cases x with
  |iface t w =>
   simp only [subs,sU,jr]
   cases Nat.beq t 1000000 with
   |false=>simp only [cond_false,Bv l]
   |true =>
    simp only [cond_true]
    rcases jd (ρ:=ρ) w with ⟨b,h⟩|⟨k,n,h⟩|⟨s,h⟩|h|⟨xs,e,h⟩<;>rw [h]<;>simp only [Bv l]
  |_=>simp only [subs,sub,sU,Bv l,qm]
theorem EJ (z:List V):∀ n,rep (subs ρ z) n=subs ρ (rep z n)
 |0=>by simp [rep,subs]
 |n+1=>by simp only [rep,qm,EJ z n]
theorem Va [Good ρ] (sz:Nat) (l:List V):AZ sz (subs ρ l)=AZ sz l:=by
 cases l with
 |nil=>simp [AZ,subs]
 |cons x l=>simp [AZ,subs,uP,iy]
def dG (ρ:V→V) (lo:Lo):Lo:=lo.map fun p=>(p.1,subs ρ p.2)
theorem FY:∀ (lo:Lo) (t:Nat),dQ (dG ρ lo) t=(dQ lo t).map (subs ρ)
 |[],t=>rfl
 |(u,cs)::r,t=>by
  have:=FY r t
  simp only [dG,List.map_cons,dQ] at this ⊢
  rw [this]
  cases Nat.beq u t<;>rfl
theorem BD:∀ (lo:Lo) (t:Nat) (cs:List V),dS (dG ρ lo) t (subs ρ cs)=dG ρ (dS lo t cs)
 |[],t,cs=>rfl
 |(u,ds)::r,t,cs=>by
  have:=BD r t cs
  simp only [dG,List.map_cons,dS] at this ⊢
  rw [this]
  cases Nat.beq u t<;>rfl
def T.map {α β:Type} (f:α→β):T α→T β
 |.leaf=>.leaf
 |.node o l r=>.node (o.map f) (l.map f) (r.map f)
theorem T.get_map {α β:Type} (f:α→β):∀ (t:T α) (i:Nat),(t.map f).get i=(t.get i).map f
 |.leaf,i=>rfl
 |.node o l r,i=>by
  simp only [T.map,T.get,T.get_map f l,T.get_map f r]
  cases Nat.beq i 0<;>cases Nat.beq (i%2) 1<;>rfl
theorem T.uN {α β:Type} (f:α→β) (o:Option α):∀ (n:Nat) (t:T α) (i:Nat),T.lU (o.map f) n (t.map f) i=(T.lU o n t i).map f
 |0,t,i=>rfl
 |n+1,.leaf,i=>by
  have h1:=T.uN f o n .leaf (i / 2)
  have h2:=T.uN f o n .leaf (i / 2-1)
  simp only [T.map] at h1 h2
  simp only [T.map,T.lU,h1,h2]
  cases Nat.beq i 0<;>cases Nat.beq (i%2) 1<;>rfl
 |n+1,.node p l r,i=>by
  simp only [T.map,T.lU,T.uN f o n]
  cases Nat.beq i 0<;>cases Nat.beq (i%2) 1<;>rfl
def aN (ρ:V→V):aF→aF
 |.tmp t=>.tmp t
 |.const v=>.const (sub ρ v)
def CO (ρ:V→V):Option aF→Option aF
 |none=>none
 |some x=>some (aN ρ x)
def yg (ρ:V→V):List aF→List aF
 |[]=>[]
 |x::l=>aN ρ x::yg ρ l
def zk (ρ:V→V):List (Nat×Nat×aF)→List (Nat×Nat×aF)
 |[]=>[]
 |(a,b,x)::l=>(a,b,aN ρ x)::zk ρ l
def gQ (ρ:V→V):l7→l7
 |.mv x=>.mv (aN ρ x)
 |.pick c a b=>.pick (aN ρ c) (aN ρ a) (aN ρ b)
 |.alloc z=>.alloc (subs ρ z)
 |.bM z=>.bM (subs ρ z)
 |.yA x=>.yA (aN ρ x)
 |.BR x=>.BR (aN ρ x)
 |.build z ps=>.build (subs ρ z) (zk ρ ps)
 |.lit z a b ps=>.lit (subs ρ z) a b (zk ρ ps)
 |.mF a=>.mF (aN ρ a)
 |.nR n a=>.nR n (aN ρ a)
 |.store n a x=>.store n (aN ρ a) (aN ρ x)
 |.ji x=>.ji (aN ρ x)
 |.eq n c x y=>.eq n c (aN ρ x) (aN ρ y)
 |.bin op x y=>.bin op (aN ρ x) (aN ρ y)
 |.not x=>.not (aN ρ x)
 |.neg x=>.neg (aN ρ x)
 |.iF k x=>.iF k (aN ρ x)
 |.vS x=>.vS (aN ρ x)
 |.zK x=>.zK (aN ρ x)
 |.jV x=>.jV (aN ρ x)
 |.toStr x=>.toStr (aN ρ x)
 |.gY t x=>.gY t (aN ρ x)
 |.bJ f a b=>.bJ f (yg ρ a) (yg ρ b)
 |.mkMap=>.mkMap
 |.mkSlice z l c=>.mkSlice (subs ρ z) (aN ρ l) (aN ρ c)
 |.slice s n x l h m=>.slice s n (aN ρ x) (CO ρ l) (CO ρ h) (CO ρ m)
 |.fieldAddr o x=>.fieldAddr o (aN ρ x)
 |.field a o n x=>.field a o n (aN ρ x)
 |.aV n x i=>.aV n (aN ρ x) (aN ρ i)
 |.qZ s n x i=>.qZ s n (aN ρ x) (aN ρ i)
 |.index x i=>.index (aN ρ x) (aN ρ i)
 |.oM a s n x i=>.oM a s n (aN ρ x) (aN ρ i)
 |.lookup kc z ok m k=>.lookup kc (sub ρ z) ok (aN ρ m) (aN ρ k)
 |.bV kc m k x=>.bV kc (aN ρ m) (aN ρ k) (aN ρ x)
 |.wU z m k=>.wU (sub ρ z) (aN ρ m) (aN ρ k)
 |.oU m s x=>.oU (aN ρ m) (aN ρ s) (aN ρ x)
 |.extract i x=>.extract i (aN ρ x)
 |.len c x=>.len c (aN ρ x)
 |.cap x=>.cap (aN ρ x)
 |.max x y=>.max (aN ρ x) (aN ρ y)
 |.min x y=>.min (aN ρ x) (aN ρ y)
 |.append n x y=>.append n (aN ρ x) (aN ρ y)
 |.lI z x n=>.lI (subs ρ z) (aN ρ x) (aN ρ n)
 |.copy n x y=>.copy n (aN ρ x) (aN ρ y)
 |.clear z x=>.clear (subs ρ z) (aN ρ x)
 |.nS x y=>.nS (aN ρ x) (aN ρ y)
 |.kQ z l c=>.kQ (subs ρ z) (aN ρ l) (aN ρ c)
 |.mG n x y=>.mG n (aN ρ x) (aN ρ y)
 |.recover=>.recover
 |.bad=>.bad
def yc (ρ:V→V):Ins→Ins
 |.op d o=>.op d (gQ ρ o)
 |.call d f as=>.call d f (yg ρ as)
 |.dyn d f as=>.dyn d (aN ρ f) (yg ρ as)
 |.defer ids f as=>.defer ids (aN ρ f) (yg ρ as)
 |.grd t b d i=>.grd t b d (yc ρ i)
 |.chk g t o=>.chk g t (gQ ρ o)
def tZ (ρ:V→V):List Ins→List Ins
 |[]=>[]
 |i::l=>yc ρ i::tZ ρ l
def jY (ρ:V→V):aH→aH
 |.skip=>.skip
 |.region l=>.region (tZ ρ l)
 |.draw l=>.draw (tZ ρ l)
 |.seq a b=>.seq (jY ρ a) (jY ρ b)
 |.cond c a b=>.cond (aN ρ c) (jY ρ a) (jY ρ b)
 |.block i c=>.block i (jY ρ c)
 |.loop c=>.loop (jY ρ c)
 |.rangeFunc f ps a b=>.rangeFunc (aN ρ f) ps (jY ρ a) (jY ρ b)
 |.exit i=>.exit i
 |.scope c=>.scope (jY ρ c)
 |.label l=>.label l
 |.goto l=>.goto l
 |.ret=>.ret
def AX (ρ:V→V) (es:List (V×V)):List (V×V):=es.map fun p=>(sub ρ p.1,sub ρ p.2)
def Qi (ρ:V→V) (l:zN):zN:=⟨l.st,l.pending,subs ρ l.fr,l.params,jY ρ l.assign,jY ρ l.body⟩
def LY (ρ:V→V):Obj→Obj
 |.cells cs=>.cells (subs ρ cs)
 |.map es=>.map (AX ρ es)
 |.loop l=>.loop (Qi ρ l)
def dH (ρ:V→V) (h:H):H:=⟨h.next,h.objs.map (LY ρ)⟩
theorem rH (h:H):(dH ρ h).next=h.next:=rfl
theorem ES (h:H) (i:Nat):(dH ρ h).get i=(h.get i).map (LY ρ):=T.get_map _ _ _
theorem ET (h:H) (i:Nat) (o:Obj):(dH ρ h).set i (LY ρ o)=dH ρ (h.set i o):=by
 simp only [H.set,dH,T.put,←T.uN,bP]
theorem ER (h:H) (i:Nat):(dH ρ h).del i=dH ρ (h.del i):=by
 simp only [H.del,dH,T.put,←T.uN,Option.map_none]
theorem xZ (h:H) (o:Obj):(dH ρ h).new (LY ρ o)=dH ρ (h.new o):=by
 simp only [H.new,dH,T.put,←T.uN,bP]
theorem ku (h:H) (i:Nat):getCells (dH ρ h) i=(getCells h i).map (subs ρ):=by
 simp only [getCells,ES]
 cases h.get i with
 |none=>rfl
 |some o=>cases o<;>rfl
theorem vC (h:H) (i:Nat):mO (dH ρ h) i=(mO h i).map (AX ρ):=by
 simp only [mO,ES]
 cases h.get i with
 |none=>rfl
 |some o=>cases o<;>rfl
theorem sD (h:H) (i:Nat):getLoop (dH ρ h) i=(getLoop h i).map (Qi ρ):=by
 simp only [getLoop,ES]
 cases h.get i with
 |none=>rfl
 |some o=>cases o<;>rfl
theorem fH (x:aF) (fr:List V):(aN ρ x).ev (subs ρ fr)=sub ρ (x.ev fr):=by
 cases x with
 |tmp t=>exact sG fr t
 |const v=>rfl
theorem Ik:∀ (l:List aF) (fr:List V),aF.evs (yg ρ l) (subs ρ fr)=subs ρ (aF.evs l fr)
 |[],fr=>by simp [yg,aF.evs,subs]
 |x::l,fr=>by simp only [yg,aF.evs,subs,fH,Ik l fr]
theorem anB (o:Option aF) (fr:List V):lF (CO ρ o) (subs ρ fr)=(lF o fr).map (sub ρ):=by
 cases o with
 |none=>rfl
 |some x=>simp [lF,CO,fH]
def Qk (ρ:V→V):OR→OR
 |.fail=>.fail
 |.ok v lo h=>.ok (sub ρ v) (dG ρ lo) (dH ρ h)
def dU (ρ:V→V) (a b:OR):Prop:=a≠.fail→b=Qk ρ a
theorem dU.fail (b:OR):dU ρ .fail b:=fun h=>absurd rfl h
theorem dU.ok (v:V) (lo:Lo) (h:H) {b:OR} (hb:b=.ok (sub ρ v) (dG ρ lo) (dH ρ h)):dU ρ (.ok v lo h) b:=fun _=>hb
theorem dU.iG {o o':Option V} {lo:Lo} {h:H} (ho:∀ v,o=some v→o'=some (sub ρ v)):dU ρ (OR.iG o lo h) (OR.iG o' (dG ρ lo) (dH ρ h)):=by
 cases o with
 |none=>exact dU.fail _
 |some v=>rw [ho v rfl];exact fun _=>rfl
end
end Go.Vx
