/- A part of the proof of TopLocks. -/
import Derived.Test.YtbbcoelimmpbaaaGreatDoorVau
set_option linter.all false
set_option linter.unusedVariables false
set_option linter.unusedSimpArgs false
set_option maxRecDepth 1000000
noncomputable section
open Go Go.RowKit
namespace Go.Vx
section
def thP (u:Nat):V:=.agg [jn 2,sy (.tuple [jn u,jn 1]),sy (.tuple [jn u,jn 2]),sy (.tuple [jn u,jn 3]),sy (.tuple [jn u,jn 4]),sy (.tuple [jn u,jn 5]),sy (.tuple [jn u,jn 6]),sy (.tuple [jn u,jn 7]),sy (.tuple [jn u,jn 8]),sy (.tuple [jn u,jn 9]),sy (.tuple [jn u,jn 10])]
def EU (t:Nat) (x:List V):Nat→Nat→List V
 |_,0=>[]
 |u,n+1=>(bif Nat.blt u t then thP u else bif Nat.beq u t then .agg x else thr u)::EU t x (u+1) n
theorem aaf {ρ:V→V} [Good ρ] {xs:List V} {u:Nat} {X:V} (hX:xs[u]?=some X) (hc:Vo X) (h2:aO (cellsD X) 0=jn 2) (ho:∀ i,ρ (.tuple [jn u,jn i])=pf (aO (cellsD (aO xs u)) i)):sub ρ (thP u)=X:=by
 obtain ⟨cs,rfl,hl,hp⟩:=hc
 rw [rD hX] at ho
 have hc:∀ i,i<11→ρ (.tuple [jn u,jn i])=aO cs i:=by
  intro i hi
  rw [ho i]
  have hmem:aO cs i∈cs:=by
   have h1:cs[i]?=some cs[i]:=fM (by omega)
   rw [rD h1]
   exact List.getElem_mem _
  exact Us (hp _ hmem).1 (hp _ hmem).2
 have h3:sub ρ (jn 2)=jn 2:=by simp only [jn,sub]
 simp only [thP,sub,subs,sy,jf,h3,hc 1 (by omega),hc 2 (by omega),hc 3 (by omega),hc 4 (by omega),hc 5 (by omega),hc 6 (by omega),hc 7 (by omega),hc 8 (by omega),hc 9 (by omega),hc 10 (by omega)]
 match cs,hl with
 |[a0,a1,a2,a3,a4,a5,a6,a7,a8,a9,a10],_ =>
  have:a0=jn 2:=h2
  subst this
  rfl
theorem KQ {ρ:V→V} [Good ρ] {xs x:List V} {t:Nat} (hxs:∀ X∈xs,Vo X) (ht:t<xs.length→xs[t]?=some (.agg (subs ρ x))) (hw:∀ u X,u<t→xs[u]?=some X→aO (cellsD X) 0=jn 2) (ho:∀ u i,ρ (.tuple [jn u,jn i])=pf (aO (cellsD (aO xs u)) i)) :
  ∀ (n u:Nat),u+n=xs.length→subs ρ (EU t x u n)=xs.drop u
 |0,u,h=>by rw [EU,yh,List.drop_eq_nil_of_le (by omega)]
 |n+1,u,h=>by
  have hu:u<xs.length:=by omega
  have h1:xs[u]?=some xs[u]:=fM hu
  rw [EU,uQ,KQ hxs ht hw ho n (u+1) (by omega),List.drop_eq_getElem_cons hu]
  congr 1
  cases hb:Nat.blt u t with
  |true =>
   have hlt:u<t:=by simpa [Nat.blt,Nat.succ_le_iff] using hb
   simp only [cond_true]
   exact aaf h1 (hxs _ (List.getElem_mem _)) (hw u _ hlt h1) (ho u)
  |false =>
   simp only [cond_false]
   cases hb2:Nat.beq u t with
   |true =>
    have:=aJ hb2
    subst this
    have:=ht hu
    rw [h1] at this
    simp only [cond_true,sub]
    exact (gy this).symm
   |false =>
    simp only [cond_false]
    exact aag h1 (hxs _ (List.getElem_mem _)) (ho u)
variable {C:Cst} {t m:Nat} {s:Ks} {et:Bool} {wK w p vars:V} {ns xs x:List V} {e:Bool} {A:Nat→Nat} {c:V}
theorem Ul (hC:Qs C) (lN:Cc 438 [w,jn t,zl] (.tuple [p,.int .i64 0])) {l:List V} {cK:V} (hv:Vw A l ns)
  (hok:zH ns=true) (hroom:ns.length+60≤100000) (hM:uK (Int.ofNat (ns.length+50)) C.most=true)
  (hxs:∀ X∈xs,Vo X) (hm:xs.length=m) (hin:qo l.length cK=true) (WT:xB l.length x=true) (hc:sub (rA A) cK=c)
  (htm:t<xs.length→xs[t]?=some (.agg (subs (rA A) x))) (hpk:∀ u X,u<t→xs[u]?=some X→aO (cellsD X) 0=jn 2)
  (hw:pf w=w) (hpp:pf p=p) (hwk:(wK=.aj∧w=.aj)∨wK=KY) {b:Bool}
  (hrun:qN (pz (TF l.length C.most (OC C t zl)) oW 1000000 (.call 25 [lZ C (sy (.gX l)) cK 0 wK (EU t x 0 m) et]) zX bx0 emp) (.bool b)=true) :
  EvB 25 [lZ C (.list ns e) c 0 w xs et] (.bool b):=by
 have hz:(iH hv hok hroom e xs w p).vV 0=0:=by rw [F5,CV hv.pos,hv.zero]
 have hcc:sub (iH hv hok hroom e xs w p).ro cK=c:=by rw [qA hin,RN hin,hc]
 have hx:subs (iH hv hok hroom e xs w p).ro x=subs (rA A) x:=by
  have h1:qo l.length (.agg x)=true:=by simpa [qo] using WT
  have h2:=qA (hv:=hv) (hok:=hok) (hroom:=hroom) (e:=e) (xs:=xs) (w:=w) (p:=p) h1
  rw [RN h1] at h2
  simp only [sub,V.agg.injEq] at h2
  exact h2
 have hth:=KQ (ρ:=(iH hv hok hroom e xs w p).ro) (x:=x) (t:=t) hxs (by rw [hx];exact htm) hpk (fun u i=>rfl) m 0 (by omega)
 have aeY:sub (iH hv hok hroom e xs w p).ro wK=w:=by
  rcases hwk with ⟨rfl,rfl⟩|rfl
  ·simp only [sub]
  ·rw [KY,sy,jf];exact hw
 have hhp:sub (iH hv hok hroom e xs w p).ro (sy (.gX l))=.list ns e:=by
  rw [sy,jf]
  show V.list ((iH hv hok hroom e xs w p).G l) e=_
  rw [VG]
 have hargs:subs (iH hv hok hroom e xs w p).ro [lZ C (sy (.gX l)) cK 0 wK (EU t x 0 m) et]=[lZ C (.list ns e) c 0 w xs et]:=by
  simp only [lZ,subs,sub,jD _ hC.ops,jD _ hC.defs,hhp,hcc,aeY,hth,List.drop_zero,jn]
 have aeP:bT [lZ C (.list ns e) c 0 w xs et]=true:=by
  have f1:=(wS hok).2
  have f2:aW c=true:=by
   rw [←hc]
   refine uZ cK ?_
   exact Ef cK hin
  have f3:aW w=true:=by rw [←hw];exact wH w
  have f4:=DV hxs
  simp only [bT,lZ,aW,hC.abb,hC.MH,f1,f2,f3,f4,jn,Bool.and_self]
 have:=evK (iH hv hok hroom e xs w p) (k0:=l.length) (M:=C.most) (QW:=OC C t zl) Dv hz hM (aew hC.ops hC.defs (show jO zl=true from rfl) hC.chk lN hw hpp) hrun (by rw [hargs];exact aeP) rfl
 rw [hargs] at this
 exact this
end
theorem aaZ {ev:V} (h:aaY ev=true):∃ k b c:Nat,ev=.agg [jn k,jn b,jn c]∧k≠3∧k≠4∧k≠5:=by
 unfold aaY at h
 cases ev<;>first|(cases h;done)|skip
 rename_i l
 match l,h with
 |[],h=>cases h
 |[_],h=>cases h
 |[_,_],h=>cases h
 |_::_::_::_::_,h=>cases h
 |[a,b,c],h =>
  dsimp only at h
  cases h1:lg a with
  |none=>rw [h1] at h;cases h
  |some k =>
   rw [h1] at h
   dsimp only at h
   cases h2:lg b with
   |none=>rw [h2] at h;cases h
   |some b' =>
    rw [h2] at h
    dsimp only at h
    cases h3:lg c with
    |none=>rw [h3] at h;cases h
    |some c' =>
     rw [h3] at h
     simp only [au,Bool.not_eq_true'] at h
     refine ⟨k,b',c',by rw [lu h1,lu h2,lu h3];rfl,?_,?_,?_⟩
     ·rintro rfl;exact absurd h.1.1 (by decide)
     ·rintro rfl;exact absurd h.1.2 (by decide)
     ·rintro rfl;exact absurd h.2 (by decide)
noncomputable section
def yI (f:Nat):Option ak:=bif Nat.beq f 83 then none else oW f
def thR (u:Nat):V:=.agg [jn 1,sy (.tuple [jn u,jn 1]),sy (.tuple [jn u,jn 2]),sy (.tuple [jn u,jn 3]),sy (.tuple [jn u,jn 4]),sy (.tuple [jn u,jn 5]),sy (.tuple [jn u,jn 6]),sy (.tuple [jn u,jn 7]),sy (.tuple [jn u,jn 8]),sy (.tuple [jn u,jn 9]),sy (.tuple [jn u,jn 10])]
def pats:List Bool→Nat→List V
 |[],_=>[]
 |b::bs,u=>(bif b then thR u else thP u)::pats bs (u+1)
def runs:List Bool→Nat→List Nat
 |[],_=>[]
 |b::bs,u=>bif b then u::runs bs (u+1) else runs bs (u+1)
def wP (bs:List Bool) (et:Bool):V:=.agg [sy (.str [0]),sy (.str [1]),sy (.str [2]),sy (.str [3]),sy (.str [4]),sy (.str [5]),sy (.str [6]),.list (pats bs 0) et,sy (.str [8])]
def axv (bs:List Bool) (et:Bool):jw:=pz ED yI 1000 (.call 71 [wP bs et]) zX bx0 emp
def v1 (bs:List Bool) (et:Bool):V:=match axv bs et with|.val v _=>v|_=>.undef
def hh1 (bs:List Bool) (et:Bool):H:=match axv bs et with|.val _ h=>h|_=>emp
def axw (bs:List Bool) (et:Bool):jw:=pz ED yI 1000 (.call 82 [v1 bs et]) zX bx0 (hh1 bs et)
def v2 (bs:List Bool) (et:Bool):V:=match axw bs et with|.val v _=>v|_=>.undef
def hh2 (bs:List Bool) (et:Bool):H:=match axw bs et with|.val _ h=>h|_=>emp
def isV (o:jw):Bool:=match o with|.val _ _=>true|_=>false
def aJa (v:V):Nat:=match v with|.hsl id _ _ _ _=>id|_=>0
def arx (v:V) (len:Nat):Bool:=match v with|.hsl _ off l c sz=>Nat.beq off 0&&Nat.beq l len&&eqO c none&&Nat.beq sz 1|_=>false
def isFn (v:V):Bool:=match v with|.func _ _ _=>true|_=>false
def Hu (bs:List Bool) (et:Bool):Bool:=isFn (v1 bs et)&&isV (axv bs et)&&isV (axw bs et)&&arx (v2 bs et) (runs bs 0).length&&(match getCells (hh2 bs et) (aJa (v2 bs et)) with|some cs=>yG cs ((runs bs 0).map jn)|none=>false)
end
theorem Zu {o:jw} (h:isV o=true):∃ v g,o=.val v g:=by cases o<;>first|(cases h;done)|exact ⟨_,_,rfl⟩
def rP (W:V) (xs:List V) (p:V):V:=match p with
 |.str s=>(match s with|[u]=>pf (aO (cellsD W) u)|_=>.int .i64 (.ofNat 0))
 |.tuple ps=>(match ps with
  |[a,b]=>(match lg a with
   |some u=>(match lg b with
    |some i=>pf (aO (cellsD (aO xs u)) i)
    |none=>.int .i64 (.ofNat 0))
   |none=>.int .i64 (.ofNat 0))
  |_=>.int .i64 (.ofNat 0))
 |_=>.int .i64 (.ofNat 0)
instance aIt (W:V) (xs:List V):Good (rP W xs) where
 plain p:=by
  unfold rP
  repeat' split
  all_goals first|exact Az _|rfl
 flat p:=by
  unfold rP
  repeat' split
  all_goals first|exact wH _|rfl
theorem Uo {W:V} {xs:List V} (hxs:∀ X∈xs,Vo X):∀ (bs:List Bool) (u:Nat),u+bs.length=xs.length→(∀ i b X,bs[i]?=some b→xs[u+i]?=some X→aO (cellsD X) 0=bif b then jn 1 else jn 2)→subs (rP W xs) (pats bs u)=xs.drop u
 |[],u,h,_=>by rw [pats,yh,List.drop_eq_nil_of_le (by simpa using Nat.le_of_eq h.symm)]
 |b::bs,u,h,hk=>by
  have hu:u<xs.length:=by simp at h;omega
  have h1:xs[u]?=some xs[u]:=fM hu
  rw [pats,uQ,Uo hxs bs (u+1) (by simp at h ⊢;omega) (fun i b X h1 h2=>hk (i+1) b X (by simpa using h1) (by rw [show u+(i+1)=u+1+i by omega];exact h2)),List.drop_eq_getElem_cons hu]
  congr 1
  have hk0:=hk 0 b xs[u] rfl (by simpa using h1)
  cases b with
  |false=>exact aaf h1 (hxs _ (List.getElem_mem _)) hk0 (fun i=>rfl)
  |true =>
   simp only [cond_true] at hk0 ⊢
   obtain ⟨cs,hcs,hl,hp⟩:=hxs _ (List.getElem_mem hu)
   have hc:∀ i,i<11→rP W xs (.tuple [jn u,jn i])=aO cs i:=by
    intro i hi
    show pf (aO (cellsD (aO xs u)) i)=_
    rw [rD h1,hcs]
    have hmem:aO cs i∈cs:=by
     have h1:cs[i]?=some cs[i]:=fM (by omega)
     rw [rD h1]
     exact List.getElem_mem _
    exact Us (hp _ hmem).1 (hp _ hmem).2
   have h3:sub (rP W xs) (jn 1)=jn 1:=by simp only [jn,sub]
   rw [hcs] at hk0 ⊢
   simp only [thR,sub,subs,sy,jf,h3,hc 1 (by omega),hc 2 (by omega),hc 3 (by omega),hc 4 (by omega),hc 5 (by omega),hc 6 (by omega),hc 7 (by omega),hc 8 (by omega),hc 9 (by omega),hc 10 (by omega)]
   match cs,hl with
   |[a0,a1,a2,a3,a4,a5,a6,a7,a8,a9,a10],_ =>
    have:a0=jn 1:=hk0
    subst this
    rfl
theorem azc {a b:Nat} (hb:Nat.beq b 0=false):kW (.int .i64 (.ofNat a)) (.int .i64 (.ofNat b))=some (.int .i64 (.ofNat (a%b))):=by
 have h1:vZ (.ofNat b) 0=false:=hb
 simp only [kW,h1,eqK,Bool.not_true,Bool.or_self,cond_false]
 rfl
noncomputable def Vt:iO:=fun f=>bif Nat.beq f 83 then some ⟨lim mmB oW 83⟩ else none
theorem ayE:qR Go.Proofs.Tryz.prog qQ Vt:=fun f a v hv=>by
 unfold aG Vt at hv
 cases h1:Nat.beq f 83 with
 |true=>rw [h1] at hv;rw [aJ h1];exact (Ai (show lim mmB oW 83 a=some v from hv)).ans (azn Wx)
 |false=>rw [h1] at hv;cases hv
theorem TI {f:Nat} (h:f≠83) (a:List V):aG Vt f a=none:=by
 unfold aG Vt
 rw [jk h]
 rfl
theorem afM {a:List V} {v:V} (h:EvB 83 a v):aG Vt 83 a=some v:=by
 show lim mmB oW 83 a=some v
 exact FX h
theorem WL {f:Nat} {vf:ak} (h:yI f=some vf):oW f=some vf∧f≠83:=by
 unfold yI at h
 cases hb:Nat.beq f 83 with
 |true=>rw [hb] at h;cases h
 |false=>rw [hb] at h;exact ⟨h,by rintro rfl;cases hb⟩
theorem WJ {f:Nat} {vf:ak} (h:oW f=some vf):Tab.fns f=some vf:=by
 unfold oW at h
 cases hc:Sm f with
 |true=>rw [hc] at h;cases h
 |false=>rw [hc] at h;exact h
theorem aL1 {mm:iO} (he:qR Go.Proofs.Tryz.prog qQ mm):∀ n,La Go.Proofs.Tryz.prog qQ (runM mm yI n) :=
 AU Tab.mixes he (fun f vf hf=>(Tab.Jm f vf (WJ (WL hf).1)).1) (fun f vf hf=>(Tab.Jm f vf (WJ (WL hf).1)).2) (fun q hq=>by
  have:q=154:=by simpa [qQ] using hq
  subst this;exact Ed)
theorem TD {ρ:V→V}:yu ρ ED Vt yI where
 known f a v h:=by cases h
 bare f vf h:=by
  obtain ⟨h1,h2⟩:=WL h
  refine ⟨TI h2,?_⟩
  ·exact lY (BL Zk (WJ h1))
theorem Qz {ρ:V→V} [Good ρ] {mm XT:iO} {fns:Nat→Option ak} (hm:yu ρ mm XT fns) {n f:Nat} {a:List V} {v:V} {h h2:H} (he:pz mm fns n (.call f a) zX bx0 h=.val v h2) :
  ∃ N,∀ m,N≤m→runM XT fns m (.call f (subs ρ a)) [] [] (dH ρ h)=.val (sub ρ v) (dH ρ h2):=by
 obtain ⟨N,hN⟩:=(AQ (mm:=mm) (fns:=fns) n).call he [] []
 refine ⟨N,fun m hm2=>?_⟩
 have h1:=(P8 hm m).go (.call f a) [] [] h
 rw [hN m hm2] at h1
 have h3:=h1 (by intro h;cases h)
 simp only [DF,nN,subs] at h3
 exact h3
theorem amY {W:V} {xs:List V} {bs:List Bool} {et:Bool} (hb:Hu bs et=true) (hW:subs (rP W xs) [wP bs et]=[W]) :
  ∃ N aaL g1 g2 id,(∀ k,runM Vt yI (N+k) (.call 71 [W]) [] [] emp=.val aaL g1) ∧
   (∀ k,runM Vt yI (N+k) (.call 82 [aaL]) [] [] g1=.val (.hsl id 0 (runs bs 0).length none 1) g2)∧getCells g2 id=some ((runs bs 0).map jn)∧zL aaL=false:=by
 simp only [Hu,au] at hb
 obtain ⟨⟨⟨⟨h0,h1⟩,h2⟩,h3⟩,h4⟩:=hb
 obtain ⟨c,g1,e1⟩:=Zu h1
 have ec:v1 bs et=c:=by unfold v1;rw [e1]
 have eg:hh1 bs et=g1:=by unfold hh1;rw [e1]
 obtain ⟨v,g2,e2⟩:=Zu h2
 have ev:v2 bs et=v:=by unfold v2;rw [e2]
 have eg2:hh2 bs et=g2:=by unfold hh2;rw [e2]
 rw [ev] at h3 h4
 rw [eg2] at h4
 obtain ⟨N1,k1⟩:=Qz (ρ:=rP W xs) TD (show pz ED yI 1000 (.call 71 [wP bs et]) zX bx0 emp=.val c g1 from e1)
 have e2:pz ED yI 1000 (.call 82 [c]) zX bx0 g1=.val v g2:=by rw [←ec,←eg];exact e2
 obtain ⟨N2,k2⟩:=Qz (ρ:=rP W xs) TD e2
 rw [hW] at k1
 have hcl:zL (sub (rP W xs) c)=false:=by
  rw [ec] at h0
  cases c<;>first|(cases h0;done)|skip
  simp only [sub]
  rfl
 cases v with
 |hsl id off l cp sz =>
  simp only [arx,au] at h3
  obtain ⟨⟨⟨q1,q2⟩,q3⟩,q4⟩:=h3
  have q1:=aJ q1
  have q2:=aJ q2
  have q4:=aJ q4
  have q3:cp=none:=by cases cp<;>first|rfl|cases q3
  subst q1;subst q2;subst q3;subst q4
  have hcells:getCells (dH (rP W xs) g2) id=some ((runs bs 0).map jn):=by
   rw [ku]
   have h4:(match getCells g2 id with|some cs=>yG cs ((runs bs 0).map jn)|none=>false)=true:=h4
   cases hg:getCells g2 id with
   |none=>rw [hg] at h4;cases h4
   |some cs =>
    rw [hg] at h4
    rw [uh _ _ h4]
    have:∀ l:List Nat,subs (rP W xs) (l.map jn)=l.map jn:=by
     intro l
     induction l with
     |nil=>simp [subs]
     |cons a l ih=>simp only [List.map_cons,subs,ih,jn,sub]
    simp only [bP,this]
  refine ⟨N1+N2,sub (rP W xs) c,dH (rP W xs) g1,dH (rP W xs) g2,id,fun k=>k1 _ (by omega),fun k=>?_,hcells,hcl⟩
  have:=k2 (N1+N2+k) (by omega)
  simp only [subs,sub] at this
  exact this
 |_=>cases h3
set_option maxHeartbeats 4000000 in
theorem agp {a0 a1 a2 a3 a4 a5 a6 a8 b0 b1 b2 b3 b4 b5 b6 b7 b8:V} {xs:List V} {bs:List Bool} {et:Bool} {n:Nat} {deep:Int} {t k b c:Nat} (hb:Hu bs et=true)
  (hW:subs (rP (.agg [a0,a1,a2,a3,a4,a5,a6,.list xs et,a8]) xs) [wP bs et]=[.agg [a0,a1,a2,a3,a4,a5,a6,.list xs et,a8]])
  (hL:runs bs 0≠[]) (ht:(runs bs 0)[n%(runs bs 0).length]?=some t) (hk3:k≠3)
  (hoa:dO [a0,a1,a2,a3,a4,a5,a6,.list xs et,a8]=true) (hob:dO [b0,b1,b2,b3,b4,b5,b6,b7,b8]=true)
  (hst:EvB 83 [.agg [a0,a1,a2,a3,a4,a5,a6,.list xs et,a8],jn t,.int .i64 deep] (.tuple [.agg [b0,b1,b2,b3,b4,b5,b6,b7,b8],.agg [jn k,jn b,jn c]]))
  (hfl:bT [.agg [a0,a1,a2,a3,a4,a5,a6,.list xs et,a8],jn n,.int .i64 deep]=true) (hfr:aW (.tuple [.agg [b0,b1,b2,b3,b4,b5,b6,b7,b8],.agg [jn k,jn b,jn c]])=true)
  (hpl:∀ h,vW (.tuple [.agg [b0,b1,b2,b3,b4,b5,b6,b7,b8],.agg [jn k,jn b,jn c]]) h=(.tuple [.agg [b0,b1,b2,b3,b4,b5,b6,b7,b8],.agg [jn k,jn b,jn c]],h)) :
  EvA Vt yI 28 [.agg [a0,a1,a2,a3,a4,a5,a6,.list xs et,a8],jn n,.int .i64 deep] (.tuple [.agg [b0,b1,b2,b3,b4,b5,b6,b7,b8],.agg [jn k,jn b,jn c]]):=by
 obtain ⟨N,aaL,g1,g2,id,h1,h2,hg,hcl⟩:=amY hb hW
 have hstep:∀ M fr lo h,runM Vt yI (M+1) (.call 83 [.agg [a0,a1,a2,a3,a4,a5,a6,.list xs et,a8],jn t,.int .i64 deep]) fr lo h=.val (.tuple [.agg [b0,b1,b2,b3,b4,b5,b6,b7,b8],.agg [jn k,jn b,jn c]]) h:=fun M fr lo h =>
  iZ (afM hst)
 have hpos:0<(runs bs 0).length:=List.length_pos_iff.2 hL
 generalize hlen:(runs bs 0).length=r at *
 have hr0:Nat.beq r 0=false:=jk (by omega)
 have hlt:n%r<r:=Nat.mod_lt _ hpos
 have hblt:Nat.ble (n%r+1) r=true:=by simp;omega
 obtain ⟨rest,hsk⟩:∃ rest,skip (n%r) ((runs bs 0).map jn)=jn t::rest:=Kw (by rw [List.getElem?_map,ht];rfl)
 generalize (runs bs 0).map jn=cells at *
 have aIW:=azc (a:=n) hr0
 have aIG:Nat.beq k 3=false:=jk hk3
 have hev:mY (.agg [.int .i64 (.ofNat k),.int .i64 (.ofNat b),.int .i64 (.ofNat c)]) (.agg [.int .i64 (.ofNat k),.int .i64 (.ofNat b),.int .i64 (.ofNat c)])=true:=D9 _ (by simp [aW,bT])
 have hn0:Nat.ble (n+1) 0=false:=rfl
 refine ⟨hfl,hfr,N+300,fun m hm=>⟨g2,?_⟩⟩
 obtain ⟨q,rfl⟩:∃ q,m=(N+q)+300:=⟨m-300-N,by omega⟩
 have h1:=fun k=>(show runM Vt yI (N+q+k) (.call 71 [_]) [] [] emp=.val aaL g1 by rw [Nat.add_assoc];exact h1 (q+k))
 have h2:=fun k=>(show runM Vt yI (N+q+k) (.call 82 [aaL]) [] [] g1=.val (.hsl id 0 r none 1) g2 by rw [Nat.add_assoc];exact h2 (q+k))
 generalize N+q=M0 at *
 rw [dY (TI (by decide) _) (show yI 28=some Tab.ap2 from rfl) rfl]
 simp only [dO,au,Bool.and_true] at hoa hob
 obtain ⟨o0,o1,o2,o3,o4,o5,o6,o7,o8⟩:=hoa
 obtain ⟨p0,p1,p2,p3,p4,p5,p6,p7,p8⟩:=hob
 unfold jn at *
 simp -implicitDefEqProofs only [Tab.ap2,WW,dA,gG,aZ,jh,dD,bI,aK,cu,cO,eY,iE,fU,eP,aP,bD,aX,dB,dh,fO,aU,aS,bU,cZ,bW,pad,aF.ev,aF.evs,lF,dI,eF,bg,dQ,dS,bH,splice,bG,takeN,skip,dO,jg,bY,Nat.reduceAdd,Nat.reduceMul,Nat.reduceSub,Nat.beq,Nat.blt,Nat.ble,leave,finish,resV,eG,mk,eH,fE,kC,gq,fZ,eqK,lH,dZ,dK,iK,gJ,jF,OR.iG,findLabel,bn,iM,fC,leI,h1,h2,hg,hcl,hsk,aIW,hr0,hblt,hn0,hstep,aIG,hev,hpl,o0,o1,o2,o3,o4,o5,o6,o7,o8,p0,p1,p2,p3,p4,p5,p6,p7,p8,Nat.mul_one]
theorem aY:∀ (l:List V) (i:Nat) (v:V),(jW l i v).length=l.length
 |[],i,v=>by simp [sH]
 |x::l,0,v=>by simp [nK]
 |x::l,i+1,v=>by simp [lT,aY l i v]
theorem bK:∀ {l:List V} {i:Nat} {v:V},i<l.length→aO (jW l i v) i=v
 |[],i,v,h=>by simp at h
 |x::l,0,v,_=>by rw [nK,kF]
 |x::l,i+1,v,h=>by rw [lT,iL];exact bK (by simpa using h)
theorem dJ:∀ {l:List V} {i j:Nat} {v:V},i≠j→aO (jW l i v) j=aO l j
 |[],i,j,v,h=>by simp [sH]
 |x::l,0,0,v,h=>absurd rfl h
 |x::l,0,j+1,v,_=>by rw [nK,iL,iL]
 |x::l,i+1,0,v,_=>by rw [lT,kF,kF]
 |x::l,i+1,j+1,v,h=>by rw [lT,iL,iL];exact dJ (by omega)
def wE (t:Nat) (v:V):V:=match v with|.bf u o=>bif Nat.beq u t then .undef else .bf u o|v=>v
theorem eU (t:Nat):∀ l:List V,(dI t l).length=l.length
 |[]=>rfl
 |v::l=>by simp [dI,eU t l]
theorem gV (t:Nat):∀ (l:List V) (j:Nat),aO (dI t l) j=wE t (aO l j)
 |[],j=>by simp [dI,Eu,wE]
 |v::l,0=>by cases v<;>simp [dI,kF,wE]
 |v::l,j+1=>by
  have:dI t (v::l)=(dI t (v::l)).head (by simp [dI])::dI t l:=by simp [dI]
  rw [this,iL,iL]
  exact gV t l j
theorem iP {t b}:wE t (.bool b)=.bool b:=rfl
theorem jq {t k n}:wE t (.int k n)=.int k n:=rfl
theorem ig {t}:wE t .aj=.aj:=rfl
theorem iR {t l e}:wE t (.list l e)=.list l e:=rfl
theorem jo {t a b c d e}:wE t (.hsl a b c d e)=.hsl a b c d e:=rfl
theorem iQ {t a b}:wE t (.dF a b)=.dF a b:=rfl
theorem jm {t l}:wE t (.agg l)=.agg l:=rfl
theorem iq {t}:wE t .undef=.undef:=rfl
theorem iT {t u o}:wE t (.bf u o)=bif Nat.beq u t then .undef else .bf u o:=rfl
theorem fJ:∀ (lo:Lo) (t:Nat) (cs:List V),dQ (dS lo t cs) t=some cs
 |[],t,cs=>by simp [dS,dQ]
 |(u,ds)::r,t,cs=>by
  simp only [dS]
  cases hb:Nat.beq u t with
  |true=>simp only [cond_true,dQ,hb]
  |false=>simp only [cond_false,dQ,hb];exact fJ r t cs
theorem iI:∀ {lo:Lo} {t s:Nat} {cs:List V},t≠s→dQ (dS lo t cs) s=dQ lo s
 |[],t,s,cs,h=>by
  have:Nat.beq t s=false:=jk h
  simp [dS,dQ,this]
 |(u,ds)::r,t,s,cs,h=>by
  simp only [dS]
  cases hb:Nat.beq u t with
  |true =>
   have hu:=aJ hb
   subst hu
   have:Nat.beq u s=false:=jk h
   simp only [cond_true,dQ,this,cond_false]
  |false =>
   simp only [cond_false,dQ]
   rw [iI h]
def QV (e:Nat×Nat×Nat):V:=.agg [jn e.1,jn e.2.1,jn e.2.2]
def Vp:List (Nat×Nat×Nat)→List V
 |[]=>[]
 |e::es=>jn e.1::jn e.2.1::jn e.2.2::Vp es
theorem Jg:∀ a b,Vp (a++b)=Vp a++Vp b
 |[],b=>rfl
 |e::a,b=>by simp only [List.cons_append,Vp,Jg a b]
theorem Jh:∀ es,(Vp es).length=es.length*3
 |[]=>rfl
 |e::es=>by simp only [Vp,List.length_cons,Jh es];omega
inductive Told (h:H) (nZ:Nat):List (Nat×Nat×Nat)→V→Prop
 |nil:Told h nZ [] .aj
 |some {es:List (Nat×Nat×Nat)} {id:Nat} (hne:es≠[]) (hg:getCells h id=.some (Vp es)) (hid:id<h.next) (hs:id≠nZ):Told h nZ es (.hsl id 0 es.length none 3)
section
def zf:aH:=match (Tab.Bh).body with|.seq _ (.seq _ (.seq (.seq _ (.block _ (.loop c))) _))=>c|_=>.skip
structure PI (fr:List V) (lo:Lo) (h:H) (nZ len:Nat) (deep:Int) (sc cW:List V) (i:Nat) (es:List (Nat×Nat×Nat)) (out:V):Prop where
 fl:fr.length=91
 s1:aO fr 1=.hsl nZ 0 len none 1
 s2:aO fr 2=.int .i64 deep
 s3:aO fr 3=.bf 3 0
 s6:aO fr 6=.bf 6 0
 s9:aO fr 9=out
 s16:aO fr 16=.hsl nZ 0 len none 1
 s17:aO fr 17=.int .i64 (.ofNat len)
 s18:aO fr 18=.int .i64 (.ofNat i)
 b3:dQ lo 3=some cW
 b6:∃ z,dQ lo 6=some z∧z.length=9
 hsc:getCells h nZ=some sc
 uj:nZ<h.next
 told:Told h nZ es out
variable {mm:iO} {fns:Nat→Option ak} {fr:List V} {lo:Lo} {h:H} {nZ len i b:Nat} {deep:Int} {sc:List V} {es:List (Nat×Nat×Nat)} {out:V} {w0 w1 w2 w3 w4 w5 w6 w7 w8 x0 x1 x2 x3 x4 x5 x6 x7 x8:V} {k t n:Nat}
set_option maxHeartbeats 8000000 in
theorem Yk (hI:PI fr lo h nZ len deep sc [w0,w1,w2,w3,w4,w5,w6,w7,w8] i es out) (hi:Nat.ble (i+1) len=true) (hb:∃ rest,skip i sc=.int .u8 (.ofNat b)::rest) (hb1:Nat.beq b 255=false) (hb2:Nat.beq b 254=false) (hb3:Nat.ble b 9223372036854775807=true) (hi3:Nat.ble i 9223372036854775806=true)
  (hov:aG mm 25 [.agg [w0,w1,w2,w3,w4,w5,w6,w7,w8]]=some (.bool false))
  (hpk:aG mm 28 [.agg [w0,w1,w2,w3,w4,w5,w6,w7,w8],.int .i64 (.ofNat b),.int .i64 deep]=some (.tuple [.agg [x0,x1,x2,x3,x4,x5,x6,x7,x8],.agg [.int .i64 (.ofNat k),.int .i64 (.ofNat t),.int .i64 (.ofNat n)]]))
  (hok:dO [x0,x1,x2,x3,x4,x5,x6,x7,x8]=true) (hk3:Nat.beq k 3=false) (hk4:Nat.beq k 4=false) (hk5:Nat.beq k 5=false) (hk:k=0∨k=1∨k=2) :
  ∃ bZ lo2,(∀ N,runM mm fns (N+300) (.code zf) fr lo h=.norm bZ lo2 h)∧PI bZ lo2 h nZ len deep sc [x0,x1,x2,x3,x4,x5,x6,x7,x8] (i+1) es out:=by
 obtain ⟨rest,hsk⟩:=hb
 simp only [dO,au,Bool.and_true] at hok
 obtain ⟨p0,p1,p2,p3,p4,p5,p6,p7,p8⟩:=hok
 have WV:=fun N fr lo h=>iZ (fns:=fns) (n:=N) (fr:=fr) (lo:=lo) (h:=h) hov
 have aeU:=fun N fr lo h=>iZ (fns:=fns) (n:=N) (fr:=fr) (lo:=lo) (h:=h) hpk
 have hlen:=hI.fl
 have hko:wE 12 out=out:=by cases hI.told<;>rfl
 have hb1:vZ (.ofNat b) 255=false:=hb1
 have hb2:vZ (.ofNat b) 254=false:=hb2
 rcases hk with rfl|rfl|rfl
 ·refine ⟨?aNc,?aOG,?eqa,?pia⟩
  case eqa =>
   intro N
   simp -implicitDefEqProofs only [zf,Tab.Bh,WW,dA,gG,aZ,jh,dD,bI,aK,cu,cO,eY,iE,fU,eP,aP,bD,aX,dB,dh,fO,aU,aS,bU,cZ,bW,pad,aF.ev,aF.evs,lF,dI,eF,bg,dQ,dS,bH,splice,bG,takeN,skip,dO,jg,bY,Nat.reduceAdd,Nat.reduceMul,Nat.reduceSub,Nat.beq,Nat.blt,Nat.ble,leave,finish,resV,eG,mk,eH,fE,kC,gq,fZ,eqK,lH,dZ,dK,iK,gJ,jF,OR.iG,findLabel,bn,iM,fC,leI,aY,bK,dJ,eU,gV,iP,jq,ig,iR,jo,iQ,jm,iq,iT,fJ,iI,hlen,hI.s1,hI.s2,hI.s3,hI.s6,hI.s9,hI.s16,hI.s17,hI.s18,hI.b3,hI.hsc,hsk,hi,hb1,hb2,hb3,hi3,WV,aeU,p0,p1,p2,p3,p4,p5,p6,p7,p8,hk3,hk4,hk5,ne_eq,dL,Nat.reduceEqDiff,Nat.reduceLT,Nat.mul_one]
   rfl
  case pia =>
   constructor
   case b6 =>
    obtain ⟨z,hz,hl⟩:=hI.b6
    exact ⟨z,by simp only [aY,bK,dJ,eU,gV,iP,jq,ig,iR,jo,iQ,jm,iq,iT,fJ,iI,hlen,hI.s1,hI.s2,hI.s3,hI.s6,hI.s9,hI.s16,hI.s17,hI.s18,hI.b3,hko,Nat.beq,cond_true,cond_false,ne_eq,dL,Nat.reduceEqDiff,Nat.reduceLT];exact hz,hl⟩
   case hsc=>exact hI.hsc
   case uj=>exact hI.uj
   case told=>exact hI.told
   all_goals simp only [aY,bK,dJ,eU,gV,iP,jq,ig,iR,jo,iQ,jm,iq,iT,fJ,iI,hlen,hI.s1,hI.s2,hI.s3,hI.s6,hI.s9,hI.s16,hI.s17,hI.s18,hI.b3,hko,Nat.beq,cond_true,cond_false,ne_eq,dL,Nat.reduceEqDiff,Nat.reduceLT]
 ·refine ⟨?aNd,?aOH,?eqb,?pib⟩
  case eqb =>
   intro N
   simp -implicitDefEqProofs only [zf,Tab.Bh,WW,dA,gG,aZ,jh,dD,bI,aK,cu,cO,eY,iE,fU,eP,aP,bD,aX,dB,dh,fO,aU,aS,bU,cZ,bW,pad,aF.ev,aF.evs,lF,dI,eF,bg,dQ,dS,bH,splice,bG,takeN,skip,dO,jg,bY,Nat.reduceAdd,Nat.reduceMul,Nat.reduceSub,Nat.beq,Nat.blt,Nat.ble,leave,finish,resV,eG,mk,eH,fE,kC,gq,fZ,eqK,lH,dZ,dK,iK,gJ,jF,OR.iG,findLabel,bn,iM,fC,leI,aY,bK,dJ,eU,gV,iP,jq,ig,iR,jo,iQ,jm,iq,iT,fJ,iI,hlen,hI.s1,hI.s2,hI.s3,hI.s6,hI.s9,hI.s16,hI.s17,hI.s18,hI.b3,hI.hsc,hsk,hi,hb1,hb2,hb3,hi3,WV,aeU,p0,p1,p2,p3,p4,p5,p6,p7,p8,hk3,hk4,hk5,ne_eq,dL,Nat.reduceEqDiff,Nat.reduceLT,Nat.mul_one]
   rfl
  case pib =>
   constructor
   case b6 =>
    obtain ⟨z,hz,hl⟩:=hI.b6
    exact ⟨z,by simp only [aY,bK,dJ,eU,gV,iP,jq,ig,iR,jo,iQ,jm,iq,iT,fJ,iI,hlen,hI.s1,hI.s2,hI.s3,hI.s6,hI.s9,hI.s16,hI.s17,hI.s18,hI.b3,hko,Nat.beq,cond_true,cond_false,ne_eq,dL,Nat.reduceEqDiff,Nat.reduceLT];exact hz,hl⟩
   case hsc=>exact hI.hsc
   case uj=>exact hI.uj
   case told=>exact hI.told
   all_goals simp only [aY,bK,dJ,eU,gV,iP,jq,ig,iR,jo,iQ,jm,iq,iT,fJ,iI,hlen,hI.s1,hI.s2,hI.s3,hI.s6,hI.s9,hI.s16,hI.s17,hI.s18,hI.b3,hko,Nat.beq,cond_true,cond_false,ne_eq,dL,Nat.reduceEqDiff,Nat.reduceLT]
 ·refine ⟨?aNe,?aOI,?eqc,?pic⟩
  case eqc =>
   intro N
   simp -implicitDefEqProofs only [zf,Tab.Bh,WW,dA,gG,aZ,jh,dD,bI,aK,cu,cO,eY,iE,fU,eP,aP,bD,aX,dB,dh,fO,aU,aS,bU,cZ,bW,pad,aF.ev,aF.evs,lF,dI,eF,bg,dQ,dS,bH,splice,bG,takeN,skip,dO,jg,bY,Nat.reduceAdd,Nat.reduceMul,Nat.reduceSub,Nat.beq,Nat.blt,Nat.ble,leave,finish,resV,eG,mk,eH,fE,kC,gq,fZ,eqK,lH,dZ,dK,iK,gJ,jF,OR.iG,findLabel,bn,iM,fC,leI,aY,bK,dJ,eU,gV,iP,jq,ig,iR,jo,iQ,jm,iq,iT,fJ,iI,hlen,hI.s1,hI.s2,hI.s3,hI.s6,hI.s9,hI.s16,hI.s17,hI.s18,hI.b3,hI.hsc,hsk,hi,hb1,hb2,hb3,hi3,WV,aeU,p0,p1,p2,p3,p4,p5,p6,p7,p8,hk3,hk4,hk5,ne_eq,dL,Nat.reduceEqDiff,Nat.reduceLT,Nat.mul_one]
   rfl
  case pic =>
   constructor
   case b6 =>
    obtain ⟨z,hz,hl⟩:=hI.b6
    exact ⟨z,by simp only [aY,bK,dJ,eU,gV,iP,jq,ig,iR,jo,iQ,jm,iq,iT,fJ,iI,hlen,hI.s1,hI.s2,hI.s3,hI.s6,hI.s9,hI.s16,hI.s17,hI.s18,hI.b3,hko,Nat.beq,cond_true,cond_false,ne_eq,dL,Nat.reduceEqDiff,Nat.reduceLT];exact hz,hl⟩
   case hsc=>exact hI.hsc
   case uj=>exact hI.uj
   case told=>exact hI.told
   all_goals simp only [aY,bK,dJ,eU,gV,iP,jq,ig,iR,jo,iQ,jm,iq,iT,fJ,iI,hlen,hI.s1,hI.s2,hI.s3,hI.s6,hI.s9,hI.s16,hI.s17,hI.s18,hI.b3,hko,Nat.beq,cond_true,cond_false,ne_eq,dL,Nat.reduceEqDiff,Nat.reduceLT]
end
section
theorem oz {h:H} {j:Nat} {cs:List V}:getCells (h.new (.cells cs)) j=if h.next=j then some cs else getCells h j:=by
 unfold getCells
 rw [H.qw]
 by_cases e:h.next=j
 ·simp [e]
 ·simp [e]
theorem Eb {h:H} {i j:Nat} (hne:i≠j):getCells (h.del i) j=getCells h j:=by
 unfold getCells
 rw [H.wC,if_neg hne]
theorem ahq {h:H} {nZ:Nat} {es:List (Nat×Nat×Nat)} {out:V} (hT:Told h nZ es out) (e:Nat×Nat×Nat) (hn:Nat.ble (es.length+1) 16777216=true) {sc:List V} (hsc:getCells h nZ=some sc) (uj:nZ<h.next) :
  ∃ o2 h2,wM h 3 out 1 [jn e.1,jn e.2.1,jn e.2.2]=some (o2,h2)∧Told h2 nZ (es++[e]) o2∧getCells h2 nZ=some sc∧nZ<h2.next:=by
 have happ:Vp (es++[e])=Vp es++[jn e.1,jn e.2.1,jn e.2.2]:=by rw [Jg];rfl
 cases hT with
 |nil =>
  refine ⟨.hsl h.next 0 1 none 3,h.new (.cells [jn e.1,jn e.2.1,jn e.2.2]),rfl,?_,?_,Nat.lt_succ_of_lt uj⟩
  ·exact Told.some (es:=[]++[e]) (by simp) (by rw [oz,if_pos rfl,happ];rfl) (Nat.lt_succ_self _) (by omega)
  ·rw [oz,if_neg (by omega)];exact hsc
 |@some es id hne hg hid hs =>
  refine ⟨.hsl h.next 0 (es.length+1) none 3,(h.del id).new (.cells (Vp es++[jn e.1,jn e.2.1,jn e.2.2])),?_,?_,?_,Nat.lt_succ_of_lt uj⟩
  ·have h1:vT (es.length*3) (getCells h id) 0=some (Vp es):=by
    rw [hg,←Jh]
    simp only [vT,skip,BQ]
   have h2:Nat.ble es.length es.length=true:=by simp
   simp only [wM,zO,dM,h1,h2,Nat.beq,cond_false,cond_true,Bool.and_true,jA,hn]
   rfl
  ·rw [show es.length+1=(es++[e]).length by simp]
   refine Told.some (es:=es++[e]) (id:=h.next) (by simp) ?_ (by show h.next<h.next+1;omega) (by show h.next≠nZ;omega)
   rw [show h.next=(h.del id).next from rfl,oz,if_pos rfl,happ]
  ·rw [oz,if_neg (by show h.next≠nZ;omega),Eb hs];exact hsc
variable {mm:iO} {fns:Nat→Option ak} {fr:List V} {lo:Lo} {h:H} {nZ len i b:Nat} {deep:Int} {sc:List V} {es:List (Nat×Nat×Nat)} {out:V} {w0 w1 w2 w3 w4 w5 w6 w7 w8 x0 x1 x2 x3 x4 x5 x6 x7 x8:V} {k t n:Nat}
theorem aEb {x y:aF} {a b c o2:V} {h2:H} (h1:x.ev fr=out) (h3:y.ev fr=.list [.agg [a,b,c]] true) (hk:dO [a,b,c]=true) (ha:wM h 3 out 1 [a,b,c]=some (o2,h2)):aU 3 x y fr lo h=.ok o2 lo h2:=by
 unfold aU
 rw [h3,h1]
 have hs:dM h 3 1 (.list [.agg [a,b,c]] true)=some [a,b,c]:=rfl
 simp only [gU,List.length_cons,List.length_nil,Nat.zero_add,hs,hk,cond_true,ha,ORp]
set_option maxHeartbeats 8000000 in
theorem acH (hI:PI fr lo h nZ len deep sc [w0,w1,w2,w3,w4,w5,w6,w7,w8] i es out) (hi:Nat.ble (i+1) len=true) (hb:∃ rest,skip i sc=.int .u8 (.ofNat b)::rest) (hb1:Nat.beq b 255=false) (hb2:Nat.beq b 254=false) (hb3:Nat.ble b 9223372036854775807=true) (hi3:Nat.ble i 9223372036854775806=true)
  (hov:aG mm 25 [.agg [w0,w1,w2,w3,w4,w5,w6,w7,w8]]=some (.bool false))
  (hpk:aG mm 28 [.agg [w0,w1,w2,w3,w4,w5,w6,w7,w8],.int .i64 (.ofNat b),.int .i64 deep]=some (.tuple [.agg [x0,x1,x2,x3,x4,x5,x6,x7,x8],.agg [.int .i64 (.ofNat k),.int .i64 (.ofNat t),.int .i64 (.ofNat n)]]))
  (hok:dO [x0,x1,x2,x3,x4,x5,x6,x7,x8]=true) (hk0:Nat.beq k 0=false) (hk1:Nat.beq k 1=false) (hk2:Nat.beq k 2=false) (hk3:Nat.beq k 3=false) (hk4:Nat.beq k 4=false) (hk5:Nat.beq k 5=false) (hel:Nat.ble (es.length+1) 16777216=true) :
  ∃ bZ lo2 h2 o2,(∀ N,runM mm fns (N+300) (.code zf) fr lo h=.norm bZ lo2 h2)∧PI bZ lo2 h2 nZ len deep sc [x0,x1,x2,x3,x4,x5,x6,x7,x8] (i+1) (es++[(k,t,n)]) o2:=by
 obtain ⟨rest,hsk⟩:=hb
 simp only [dO,au,Bool.and_true] at hok
 obtain ⟨p0,p1,p2,p3,p4,p5,p6,p7,p8⟩:=hok
 have WV:=fun N fr lo h=>iZ (fns:=fns) (n:=N) (fr:=fr) (lo:=lo) (h:=h) hov
 have aeU:=fun N fr lo h=>iZ (fns:=fns) (n:=N) (fr:=fr) (lo:=lo) (h:=h) hpk
 have hlen:=hI.fl
 have hko:wE 12 out=out:=by cases hI.told<;>rfl
 have hos:isVal out=true:=by cases hI.told<;>rfl
 have hol:zL out=false:=by cases hI.told<;>rfl
 have hb1:vZ (.ofNat b) 255=false:=hb1
 have hb2:vZ (.ofNat b) 254=false:=hb2
 have hq0:vZ (.ofNat k) 0=false:=hk0
 have hq1:vZ (.ofNat k) 1=false:=hk1
 have hq2:vZ (.ofNat k) 2=false:=hk2
 have hq3:vZ (.ofNat k) 3=false:=hk3
 have hq4:vZ (.ofNat k) 4=false:=hk4
 have hq5:vZ (.ofNat k) 5=false:=hk5
 obtain ⟨o2,h2,hap,hT2,hsc2,Zo⟩:=ahq hI.told (k,t,n) hel hI.hsc hI.uj
 have aAK:=fun (fr:List V) (lo:Lo) (x y:aF) (q1:x.ev fr=out) (q2:y.ev fr=.list [.agg [jn k,jn t,jn n]] true)=>aEb (lo:=lo) q1 q2 rfl hap
 unfold jn at aAK
 refine ⟨?bZ,?lo2,h2,o2,?eq,?pi⟩
 case eq =>
  intro N
  simp -implicitDefEqProofs only [zf,Tab.Bh,WW,dA,gG,aZ,jh,dD,bI,aK,cu,cO,eY,iE,fU,eP,aP,bD,aX,dB,dh,fO,aS,bU,cZ,bW,pad,aF.ev,aF.evs,lF,dI,eF,bg,dQ,dS,bH,splice,bG,takeN,skip,dO,jg,bY,Nat.reduceAdd,Nat.reduceMul,Nat.reduceSub,Nat.beq,Nat.blt,Nat.ble,leave,finish,resV,eG,mk,eH,fE,kC,gq,fZ,eqK,lH,dZ,dK,iK,gJ,jF,OR.iG,findLabel,bn,iM,fC,leI,aY,bK,dJ,eU,gV,iP,jq,ig,iR,jo,iQ,jm,iq,iT,fJ,iI,hlen,hI.s1,hI.s2,hI.s3,hI.s6,hI.s9,hI.s16,hI.s17,hI.s18,hI.b3,hI.hsc,hsk,hi,hb1,hb2,hb3,hi3,WV,aeU,p0,p1,p2,p3,p4,p5,p6,p7,p8,hk0,hk1,hk2,hk3,hk4,hk5,hq0,hq1,hq2,hq3,hq4,hq5,hko,hos,hol,aAK,rep,chunk,elemOf,ne_eq,dL,Nat.reduceEqDiff,Nat.reduceLT,Nat.mul_one]
  rfl
 case pi =>
  constructor
  case b6 =>
   obtain ⟨z,hz,hl⟩:=hI.b6
   exact ⟨z,by simp only [aY,bK,dJ,eU,gV,iP,jq,ig,iR,jo,iQ,jm,iq,iT,fJ,iI,hlen,hI.s1,hI.s2,hI.s3,hI.s6,hI.s9,hI.s16,hI.s17,hI.s18,hI.b3,hko,Nat.beq,cond_true,cond_false,ne_eq,dL,Nat.reduceEqDiff,Nat.reduceLT];exact hz,hl⟩
  case hsc=>exact hsc2
  case uj=>exact Zo
  case told=>exact hT2
  all_goals simp only [aY,bK,dJ,eU,gV,iP,jq,ig,iR,jo,iQ,jm,iq,iT,fJ,iI,hlen,hI.s1,hI.s2,hI.s3,hI.s6,hI.s9,hI.s16,hI.s17,hI.s18,hI.b3,hko,Nat.beq,cond_true,cond_false,ne_eq,dL,Nat.reduceEqDiff,Nat.reduceLT]
end
section
variable {mm:iO} {fns:Nat→Option ak} {fr:List V} {lo:Lo} {h:H} {nZ len i b:Nat} {deep:Int} {sc:List V} {es:List (Nat×Nat×Nat)} {out:V} {w0 w1 w2 w3 w4 w5 w6 w7 w8 x0 x1 x2 x3 x4 x5 x6 x7 x8:V} {k t n:Nat}
structure PE (fr:List V) (lo:Lo) (i:Nat) (cW:List V) (out:V):Prop where
 s6:aO fr 6=.bf 6 0
 s7:aO fr 7=out
 s8:aO fr 8=.int .i64 (.ofNat i)
 b6:dQ lo 6=some cW
set_option maxHeartbeats 8000000 in
theorem acG (hI:PI fr lo h nZ len deep sc [w0,w1,w2,w3,w4,w5,w6,w7,w8] i es out) (hi:Nat.ble (i+1) len=true) (hb:∃ rest,skip i sc=.int .u8 (.ofNat b)::rest)
  (hov:aG mm 25 [.agg [w0,w1,w2,w3,w4,w5,w6,w7,w8]]=some (.bool true))
  (hok:dO [w0,w1,w2,w3,w4,w5,w6,w7,w8]=true) :
  ∃ bZ lo2,(∀ N,runM mm fns (N+300) (.code zf) fr lo h=.jump .ret bZ lo2 h)∧PE bZ lo2 i [w0,w1,w2,w3,w4,w5,w6,w7,w8] out:=by
 obtain ⟨rest,hsk⟩:=hb
 simp only [dO,au,Bool.and_true] at hok
 obtain ⟨p0,p1,p2,p3,p4,p5,p6,p7,p8⟩:=hok
 have WV:=fun N fr lo h=>iZ (fns:=fns) (n:=N) (fr:=fr) (lo:=lo) (h:=h) hov
 have hlen:=hI.fl
 have hos:isVal out=true:=by cases hI.told<;>rfl
 have hol:zL out=false:=by cases hI.told<;>rfl
 obtain ⟨z,hz,hzl⟩:=hI.b6
 match z,hzl with
 |[z0,z1,z2,z3,z4,z5,z6,z7,z8],_ =>
  refine ⟨?bZ,?lo2,?eq,?pe⟩
  case eq =>
   intro N
   simp -implicitDefEqProofs only [zf,Tab.Bh,WW,dA,gG,aZ,jh,dD,bI,aK,cu,cO,eY,iE,fU,eP,aP,bD,aX,dB,dh,fO,aU,aS,bU,cZ,bW,pad,aF.ev,aF.evs,lF,dI,eF,bg,dQ,dS,bH,splice,bG,takeN,skip,dO,jg,bY,Nat.reduceAdd,Nat.reduceMul,Nat.reduceSub,Nat.beq,Nat.blt,Nat.ble,leave,finish,resV,eG,mk,eH,fE,kC,gq,fZ,eqK,lH,dZ,dK,iK,gJ,jF,OR.iG,findLabel,bn,iM,fC,leI,aY,bK,dJ,eU,gV,iP,jq,ig,iR,jo,iQ,jm,iq,iT,fJ,iI,hlen,hI.s1,hI.s2,hI.s3,hI.s6,hI.s9,hI.s16,hI.s17,hI.s18,hI.b3,hz,hI.hsc,hsk,hi,WV,p0,p1,p2,p3,p4,p5,p6,p7,p8,hos,hol,ne_eq,dL,Nat.reduceEqDiff,Nat.reduceLT,Nat.mul_one]
   rfl
  case pe =>
   constructor
   case b6=>simp only [fJ]
   all_goals simp only [aY,bK,dJ,hlen,hI.s6,ne_eq,dL,Nat.reduceEqDiff,Nat.reduceLT]
end
section
variable {mm:iO} {fns:Nat→Option ak} {fr:List V} {lo:Lo} {h:H} {nZ len i b:Nat} {deep:Int} {sc:List V} {es:List (Nat×Nat×Nat)} {out:V}
def tell (es:List (Nat×Nat×Nat)) (e:Nat×Nat×Nat):List (Nat×Nat×Nat):=if e.1≤2 then es else es++[e]
theorem Vb (es:List (Nat×Nat×Nat)) (e:Nat×Nat×Nat):(tell es e).length≤es.length+1:=by
 unfold tell
 split
 ·omega
 ·simp
inductive Way (mm:iO) (deep:Int) (len:Nat) (sc:List V):Nat→List V→List (Nat×Nat×Nat)→Nat→List V→List (Nat×Nat×Nat)→Prop
 |stop {i b:Nat} {c:List V} {es:List (Nat×Nat×Nat)} (hi:i<len) (hb:∃ rest,skip i sc=.int .u8 (.ofNat b)::rest) (hc:c.length=9) (hok:dO c=true)
   (hov:aG mm 25 [.agg c]=some (.bool true)):Way mm deep len sc i c es i c es
 |step {i b j:Nat} {c c2 c3:List V} {es es3:List (Nat×Nat×Nat)} {e:Nat×Nat×Nat} (hi:i<len) (hi2:i<100000) (hel:es.length<100000) (hb:∃ rest,skip i sc=.int .u8 (.ofNat b)::rest) (hb2:b<254) (hc:c.length=9) (hc2:c2.length=9) (hok:dO c2=true)
   (hov:aG mm 25 [.agg c]=some (.bool false))
   (hpk:aG mm 28 [.agg c,.int .i64 (.ofNat b),.int .i64 deep]=some (.tuple [.agg c2,QV e]))
   (hk:e.1≠3∧e.1≠4∧e.1≠5) (hw:Way mm deep len sc (i+1) c2 (tell es e) j c3 es3):Way mm deep len sc i c es j c3 es3
theorem acF {c c3:List V} {es3:List (Nat×Nat×Nat)} {j:Nat} (hw:Way mm deep len sc i c es j c3 es3):∀ {fr:List V} {lo:Lo} {h:H} {out:V},PI fr lo h nZ len deep sc c i es out →
  ∃ N bZ lo2 h2 acA,(∀ n,N≤n→runM mm fns n (.code (.loop zf)) fr lo h=.jump .ret bZ lo2 h2)∧PE bZ lo2 j c3 acA∧Told h2 nZ es3 acA∧getCells h2 nZ=some sc∧nZ<h2.next∧dO c3=true∧c3.length=9:=by
 induction hw with
 |@stop i b c es hi hb hc hok hov =>
  intro fr lo h out hI
  match c,hc with
  |[w0,w1,w2,w3,w4,w5,w6,w7,w8],_ =>
   have hib:Nat.ble (i+1) len=true:=by simp;omega
   obtain ⟨b1,hb1⟩:=hb
   obtain ⟨bZ,lo2,h1,h2⟩:=acG (fns:=fns) hI hib ⟨_,hb1⟩ hov hok
   refine ⟨301,bZ,lo2,h,out,fun n hn=>?_,h2,hI.told,hI.hsc,hI.uj,hok,rfl⟩
   obtain ⟨q,rfl⟩:∃ q,n=q+300+1:=⟨n-301,by omega⟩
   rw [lV]
   simp only [dA,h1,yM]
 |@step i b j c c2 c3 es es3 e hi hi2 hel hb hb2 hc hc2 hok hov hpk hk hw ih =>
  intro fr lo h out hI
  match c,hc,c2,hc2 with
  |[w0,w1,w2,w3,w4,w5,w6,w7,w8],_,[x0,x1,x2,x3,x4,x5,x6,x7,x8],_ =>
   have hib:Nat.ble (i+1) len=true:=by simp;omega
   have q1:Nat.beq b 255=false:=jk (by omega)
   have q2:Nat.beq b 254=false:=jk (by omega)
   have q3:Nat.ble b 9223372036854775807=true:=by simp;omega
   have q4:Nat.ble i 9223372036854775806=true:=by simp;omega
   have q5:Nat.ble (es.length+1) 16777216=true:=by simp;omega
   have k3:=jk hk.1
   have k4:=jk hk.2.1
   have k5:=jk hk.2.2
   have hone:∃ bZ lo2 h2 o2,(∀ N,runM mm fns (N+300) (.code zf) fr lo h=.norm bZ lo2 h2)∧PI bZ lo2 h2 nZ len deep sc [x0,x1,x2,x3,x4,x5,x6,x7,x8] (i+1) (tell es e) o2:=by
    obtain ⟨k,t,n⟩:=e
    by_cases hq:k≤2
    ·have:tell es (k,t,n)=es:=by simp [tell,hq]
     rw [this]
     obtain ⟨bZ,lo2,h1,h2⟩:=Yk (fns:=fns) hI hib hb q1 q2 q3 q4 hov hpk hok k3 k4 k5 (by omega)
     exact ⟨bZ,lo2,h,out,h1,h2⟩
    ·have:tell es (k,t,n)=es++[(k,t,n)]:=by simp [tell,hq]
     rw [this]
     exact acH (fns:=fns) hI hib hb q1 q2 q3 q4 hov hpk hok (jk (by omega)) (jk (by omega)) (jk (by omega)) k3 k4 k5 q5
   obtain ⟨bZ,lo2,h2,o2,h1,hI2⟩:=hone
   obtain ⟨N,E5,lo3,h3,o3,g1,g2⟩:=ih hI2
   refine ⟨N+301,E5,lo3,h3,o3,fun n hn=>?_,g2⟩
   obtain ⟨q,rfl⟩:∃ q,n=q+300+1:=⟨n-301,by omega⟩
   rw [lV]
   simp only [dA,h1,ru]
   exact g1 (q+300) (by omega)
end
section
variable {mm:iO} {fns:Nat→Option ak} {h:H} {nZ len:Nat} {deep:Int} {sc:List V} {es:List (Nat×Nat×Nat)} {out:V}
def evL (es:List (Nat×Nat×Nat)):V:=match es with|[]=>.aj|e::es=>.list ((e::es).map QV) false
theorem QE:∀ es,chunk 3 es.length (Vp es)=some (es.map QV)
 |[]=>rfl
 |e::es=>by
  have:chunk 3 es.length (skip 3 (Vp (e::es)))=some (es.map QV):=QE es
  simp only [List.length_cons,chunk,this]
  rfl
theorem Zj:∀ (es:List (Nat×Nat×Nat)) (n:Nat) (h:H),dW (n+es.length) (es.map QV) h=(es.map QV,h)
 |[],n,h=>Jo _ _
 |e::es,n,h=>by
  have h1:pV [jn e.1,jn e.2.1,jn e.2.2]=true:=rfl
  have h2:dW (n+es.length+1) (QV e::es.map QV) h=(match dW (n+es.length) [jn e.1,jn e.2.1,jn e.2.2] h with|(cs,h)=>lM (.agg cs) (dW (n+es.length) (es.map QV) h)):=rfl
  rw [List.map_cons,List.length_cons,←Nat.add_assoc,h2,rG _ h h1]
  dsimp only
  rw [Zj es n h]
  rfl
theorem aeK {c:List V} {j:Nat} (hp:pV c=true) (hT:Told h nZ es out) (hl:es.length≤200000) (hsc:getCells h nZ=some sc) (uj:nZ<h.next) :
  ∃ h2,vW (.tuple [.agg c,out,jn j]) h=(.tuple [.agg c,evL es,jn j],h2)∧getCells h2 nZ=some sc∧nZ<h2.next:=by
 have e1:dW (999999+1) [.tuple [.agg c,out,jn j]] h=(match dW (999998+1) [.agg c,out,jn j] h with|(cs,h)=>lM (.tuple cs) (dW 999999 [] h)):=rfl
 have e2:dW (999998+1) [.agg c,out,jn j] h=(match dW 999998 c h with|(cs,h)=>lM (.agg cs) (dW 999998 [out,jn j] h)):=rfl
 unfold vW
 rw [show (1000000:Nat)=999999+1 from rfl,e1,e2,rG _ h hp]
 dsimp only
 cases hT with
 |nil =>
  have h1:pV [.aj,jn j]=true:=rfl
  rw [rG _ h h1]
  exact ⟨h,rfl,hsc,uj⟩
 |@some es id hne hg hid hs =>
  refine ⟨h.del id,?_,by rw [Eb hs];exact hsc,uj⟩
  have e3:dW (999997+1) [.hsl id 0 es.length none 3,jn j] h=(match h.get id with
   |some (.cells cs)=>(match chunk 3 es.length (skip 0 cs) with
    |some xs=>(match dW 999997 xs (h.del id) with
     |(xs,h)=>lM (.list xs false) (dW 999997 [jn j] h))
    |none=>lM (.hsl id 0 es.length none 3) (dW 999997 [jn j] h))
   |_=>lM (.hsl id 0 es.length none 3) (dW 999997 [jn j] h)):=rfl
  have e4:dW 999997 (es.map QV) (h.del id)=(es.map QV,h.del id):=by
   have:=Zj es (999997-es.length) (h.del id)
   rwa [Nat.sub_add_cancel (by omega)] at this
  have e5:skip 0 (Vp es)=Vp es:=rfl
  have h1:pV [jn j]=true:=rfl
  rw [show (999998:Nat)=999997+1 from rfl,e3,iY hg]
  dsimp only
  rw [e5,QE]
  dsimp only
  rw [e4]
  dsimp only
  rw [rG _ _ h1]
  match es,hne with
  |e::es,_=>rfl
end
section
variable {mm:iO} {fns:Nat→Option ak} {h:H} {nZ len:Nat} {deep:Int} {sc:List V} {es:List (Nat×Nat×Nat)} {out:V}
section
variable {ih:Ih} {fr:List V} {lo:Lo}
theorem Dh:dA ih .skip fr lo h=.norm fr lo h:=rfl
theorem uT {os:List Ins}:dA ih (.region os) fr lo h=ih (.ops os) fr lo h:=rfl
theorem CZ {os:List Ins}:dA ih (.draw os) fr lo h=ih (.draws os) fr lo h:=rfl
theorem I5 {a b:aH}:dA ih (.seq a b) fr lo h=vI ih b (ih (.code a) fr lo h):=rfl
theorem CY {c:aF} {a b:aH}:dA ih (.cond c a b) fr lo h=Em ih (c.ev fr) a b fr lo h:=rfl
theorem yC {id:Nat} {c:aH}:dA ih (.block id c) fr lo h=mP id (ih (.code c) fr lo h):=rfl
theorem Dc {c:aH}:dA ih (.loop c) fr lo h=vI ih (.loop c) (ih (.code c) fr lo h):=rfl
theorem C9 {id:Nat}:dA ih (.exit id) fr lo h=.jump (.exit id) fr lo h:=rfl
theorem I4:dA ih .ret fr lo h=.jump .ret fr lo h:=rfl
end
variable {w0 w1 w2 w3 w4 w5 w6 w7 w8:V} {F:List V} {L D:aH}
set_option maxHeartbeats 8000000 in
theorem Yl (hF:F.length=91) (f0:aO F 0=.agg [w0,w1,w2,w3,w4,w5,w6,w7,w8]) (f1:aO F 1=.hsl nZ 0 len none 1) (f2:aO F 2=.int .i64 deep) (hsc:getCells h nZ=some sc) (uj:nZ<h.next) :
  ∃ fr lo,(∀ N,runM mm fns (N+100) (.code (.seq (.region [.op (some 3) (.yA (.tmp 0)),.op (some 6) (.alloc [.aj,.aj,.aj,.int .i64 0,.aj,.int .i64 0,.aj,.aj,.aj]),.op (some 7) (.mv (.const .aj)),.op (some 8) (.mv (.const (.int .i64 0)))])
   (.seq (.region [.op (some 9) (.mv (.const .aj))]) (.seq (.seq (.region [.op (some 16) (.mv (.tmp 1)),.op (some 17) (.len 0 (.tmp 16)),.op (some 18) (.mv (.const (.int .i64 0)))]) (.block 0 L)) D)))) F [] h
    = vI (runM mm fns (N+97)) D (mP 0 (dA (runM mm fns (N+94)) L fr lo h)))∧PI fr lo h nZ len deep sc [w0,w1,w2,w3,w4,w5,w6,w7,w8] 0 [] .aj:=by
 refine ⟨?bZ,?lo2,?eq,?pi⟩
 case eq =>
  intro N
  simp -implicitDefEqProofs only [WW,Dh,uT,CZ,I5,CY,yC,Dc,C9,I4,gG,aZ,jh,dD,bI,aK,cu,cO,eY,iE,fU,eP,aP,bD,aX,dB,dh,fO,aU,aS,bU,cZ,bW,pad,aF.ev,aF.evs,lF,dI,eF,bg,dQ,dS,bH,splice,bG,takeN,skip,dO,jg,bY,Nat.reduceAdd,Nat.reduceMul,Nat.reduceSub,Nat.beq,Nat.blt,Nat.ble,leave,finish,resV,eG,mk,eH,fE,kC,gq,fZ,eqK,lH,dZ,dK,iK,gJ,jF,OR.iG,findLabel,bn,iM,fC,leI,aY,bK,dJ,eU,gV,iP,jq,ig,iR,jo,iQ,jm,iq,iT,fJ,iI,hF,f0,f1,f2,ne_eq,dL,Nat.reduceEqDiff,Nat.reduceLT,Nat.mul_one]
  rfl
 case pi =>
  constructor
  case b6=>exact ⟨_,rfl,rfl⟩
  case hsc=>exact hsc
  case uj=>exact uj
  case told=>exact .nil
  all_goals (first|rfl|simp only [aY,bK,dJ,eU,gV,iP,jq,ig,iR,jo,iQ,jm,iq,iT,fJ,iI,hF,f0,f1,f2,ne_eq,dL,Nat.reduceEqDiff,Nat.reduceLT,Nat.beq,cond_true,cond_false])
set_option maxHeartbeats 8000000 in
theorem acE {c c3:List V} {es3:List (Nat×Nat×Nat)} {j:Nat} (hc:c.length=9) (hok:dO c=true) (hp:pV c3=true) (hl:es3.length≤200000) (hrec:∀ a,aG mm 12 a=none) (hfn:fns 12=some Tab.Bh)
  (hw:Way mm deep len sc 0 c [] j c3 es3) (hsc:getCells h nZ=some sc) (uj:nZ<h.next) :
  ∃ N h2,(∀ n,N≤n→runM mm fns n (.call 12 [.agg c,.hsl nZ 0 len none 1,.int .i64 deep]) [] [] h=.val (.tuple [.agg c3,evL es3,jn j]) h2)∧getCells h2 nZ=some sc∧nZ<h2.next:=by
 match c,hc with
 |[w0,w1,w2,w3,w4,w5,w6,w7,w8],_ =>
  obtain ⟨F,WQ⟩:∃ F,F=pad 91 [.agg [w0,w1,w2,w3,w4,w5,w6,w7,w8],.hsl nZ 0 len none 1,.int .i64 deep]:=⟨_,rfl⟩
  obtain ⟨D,hbody⟩:∃ D,(Tab.Bh).body=.seq (.region [.op (some 3) (.yA (.tmp 0)),.op (some 6) (.alloc [.aj,.aj,.aj,.int .i64 0,.aj,.int .i64 0,.aj,.aj,.aj]),.op (some 7) (.mv (.const .aj)),.op (some 8) (.mv (.const (.int .i64 0)))])
   (.seq (.region [.op (some 9) (.mv (.const .aj))]) (.seq (.seq (.region [.op (some 16) (.mv (.tmp 1)),.op (some 17) (.len 0 (.tmp 16)),.op (some 18) (.mv (.const (.int .i64 0)))]) (.block 0 (.loop zf))) D)):=⟨_,rfl⟩
  obtain ⟨fr,lo,hst,hI⟩:=Yl (mm:=mm) (fns:=fns) (h:=h) (nZ:=nZ) (len:=len) (deep:=deep) (sc:=sc) (F:=F) (L:=.loop zf) (D:=D) (by rw [WQ];rfl) (by rw [WQ];rfl) (by rw [WQ];rfl) (by rw [WQ];rfl) hsc uj
  obtain ⟨N,bZ,lo2,h2,acA,hrun,hE,hT,hsc2,Zo,aNt,hl3⟩:=acF (fns:=fns) hw hI
  obtain ⟨h3,hf,aIZ,aBa⟩:=aeK (j:=j) hp hT hl hsc2 Zo
  have hres:(Tab.Bh).results=[(6,true,true,9),(7,false,false,0),(8,false,false,0)]:=rfl
  have hfz:(Tab.Bh).vW=true:=rfl
  have hnt:(Tab.Bh).nt=91:=rfl
  have hleave:GK Tab.Bh (.jump .ret bZ lo2 h2)=.val (.tuple [.agg c3,evL es3,jn j]) h3:=by
   have ht:takeN 9 c3=some c3:=BQ hl3.symm
   have hil:bY acA=false:=by cases hT<;>rfl
   show finish Tab.Bh (resV bZ lo2 h2 (Tab.Bh).results) h2=_
   rw [hres]
   simp only [resV,hE.s6,hE.s7,hE.s8,hE.b6,bg,skip,mk,ht,cond_true,cond_false,show bY (.agg c3)=false from rfl,show bY (.int .i64 (.ofNat j))=false from rfl,hil]
   unfold jn at hf
   simp only [finish,hfz,cond_true,eG,hf]
   rfl
  refine ⟨N+300,h3,fun n hn=>?_,aIZ,aBa⟩
  obtain ⟨q,rfl⟩:∃ q,n=(N+q)+100+1:=⟨n-101-N,by omega⟩
  rw [dY (hrec _) hfn rfl,hbody,hnt,←WQ,hst,←lV,hrun _ (by omega)]
  exact hleave
end
section
structure WM (mm:iO):Prop where
 over:∀ a v,EvB 25 a v→aG mm 25 a=some v
 pick:∀ a v,EvA Vt yI 28 a v→aG mm 28 a=some v
theorem acD {v:V} (h:fD v=true):yT v=true:=by cases v<;>first|rfl|cases h
theorem ags {v:V} (h:fD v=true):Bg v=true:=by cases v<;>first|rfl|cases h
theorem Ut {v:V} {l:List V} (h:fD v=true) (h2:pV l=true):pV (v::l)=true:=by
 show (Bool.rec (motive:=fun _=>Bool) false (pV l) (Bg v))=true
 rw [ags h];exact h2
theorem Ku:∀ {bs:List Bool} {u t:Nat},t∈runs bs u→∃ i,t=u+i∧bs[i]?=some true
 |[],u,t,h=>by simp [runs] at h
 |true::bs,u,t,h=>by
  simp only [runs,cond_true,List.mem_cons] at h
  rcases h with rfl|h
  ·exact ⟨0,rfl,rfl⟩
  ·obtain ⟨i,h1,h2⟩:=Ku h
   exact ⟨i+1,by omega,h2⟩
 |false::bs,u,t,h=>by
  simp only [runs,cond_false] at h
  obtain ⟨i,h1,h2⟩:=Ku h
  exact ⟨i+1,by omega,h2⟩
theorem Tz:∀ {bs:List Bool} {i:Nat} (u:Nat),bs[i]?=some true→u+i∈runs bs u
 |[],i,u,h=>by simp at h
 |b::bs,0,u,h=>by
  simp at h
  subst h
  simp [runs]
 |b::bs,i+1,u,h=>by
  have:=Tz (u+1) (show bs[i]?=some true from by simpa using h)
  rw [show u+1+i=u+(i+1) by omega] at this
  cases b with
  |true=>simp only [runs,cond_true,List.mem_cons];exact .inr this
  |false=>simpa only [runs,cond_false] using this
theorem Ri {P K:Nat→Nat}:∀ m,(∀ t,t<m→P t=K t)∨∃ t,t<m∧P t≠K t∧∀ u,u<t→P u=K u
 |0=>.inl fun t h=>by omega
 |m+1=>by
  rcases Ri (P:=P) (K:=K) m with h|⟨t,h1,h2,h3⟩
  ·by_cases hq:P m=K m
   ·exact .inl fun t ht=>by
     by_cases htm:t=m
     ·subst htm;exact hq
     ·exact h t (by omega)
   ·exact .inr ⟨m,by omega,hq,h⟩
  ·exact .inr ⟨t,by omega,h2,h3⟩
structure Ht (Y:Rws):Prop where
 x0:∀ t k,t≤Y.n→k≤Y.K t→aO (Y.R t k).x 0=jn (if k=Y.K t then 2 else 1)
 x11:∀ t k,t≤Y.n→k≤Y.K t→(Y.R t k).x.length=11
 c0:∀ t k,t≤Y.n→k≤Y.K t→kX (Y.R t k).c=true
 pops:fD Y.C.ops=true
 CG:fD Y.C.defs=true
 run:∀ t k m,t≤Y.n→k<Y.K t→(t=0→m=Y.mn k)→(t≠0→m=Y.n+1)→qN (pz (TF (Y.R t k).l.length Y.C.most (OC Y.C t zl)) oW 1000000 (.call 25 [lZ Y.C (sy (.gX (Y.R t k).l)) (Y.R t k).c 0 (Y.wk t k) (EU t (Y.R t k).x 0 m) (Nat.beq t 0&&Nat.beq k 0)]) zX bx0 emp) (.bool false)=true
 fin:qN (pz (TF (Y.R 0 (Y.K 0)).l.length Y.C.most (OC Y.C (Y.n+1) zl)) oW 1000000 (.call 25 [lZ Y.C (sy (.gX (Y.R 0 (Y.K 0)).l)) (Y.R 0 (Y.K 0)).c 0 KY (EU (Y.n+1) (Y.R 0 (Y.K 0)).x 0 (Y.n+1)) false]) zX bx0 emp) (.bool true)=true
 agk:∀ ts:List Nat,ts.Nodup→(∀ u∈ts,u≤Y.n)→Cc 438 [wv ts,jn (Y.n+1),zl] (.tuple [wv (ts++[Y.n+1]),.int .i64 0])
 col:∀ bs:List Bool,bs.length≤Y.n+1→runs bs 0≠[]→Hu bs false=true
 Dk:Hu [true] true=true
variable {Y:Rws} {P:Nat→Nat} {ts:List Nat} {ns xs:List V} {A:Nat→Nat→Nat} {c:V} {e:Bool} {t:Nat}
theorem EP (hO:Ht Y) (hI:Og Y P ts ns xs A c) (hmn:xs.length≤Y.n+1) {u:Nat} {X:V} (hX:xs[u]?=some X):aO (cellsD X) 0=jn (if P u=Y.K u then 2 else 1):=by
 have hu:=mZ hX
 obtain ⟨X2,h1,hA⟩:=hI.ats u hu
 rw [hX] at h1
 cases h1
 have h0:=hO.x0 u (P u) (by omega) (hI.le u (by omega))
 have h11:=hO.x11 u (P u) (by omega) (hI.le u (by omega))
 rw [hA.x]
 match hx:(Y.R u (P u)).x,h11 with
 |[],h=>simp at h
 |a::l,_ =>
  rw [hx] at h0
  rw [kF] at h0
  subst h0
  show aO (subs (rA (A u)) (jn _::l)) 0=_
  rw [uQ,kF]
  simp only [jn,sub]
def nO (Y:Rws) (P:Nat→Nat) (ts:List Nat) (ns:List V) (e:Bool) (xs:List V) (c:V):List V:=[Y.C.ops,Y.C.defs,.list ns e,.int .i64 Y.C.most,c,jn 0,wv ts,.list xs (Nat.beq (P 0) 0),.aj]
theorem Qp:Ib Y P ts ns e xs c=.agg (nO Y P ts ns e xs c):=rfl
theorem Ze (hO:Ht Y) (hI:Og Y P ts ns xs A c) (h0:0<xs.length):fD c=true∧aW c=true:=by
 obtain ⟨X,h1,hA⟩:=hI.ats 0 h0
 have hc:=hO.c0 0 (P 0) (Nat.zero_le _) (hI.le 0 (Nat.zero_le _))
 have hin:=hA.inc
 have h2:=vM (ρ:=rA (A 0)) (l:=[(Y.R 0 (P 0)).c]) (by
  simp only [qC,hc,Bool.true_and,Bool.and_true]
  exact Ef _ hin) c (by rw [uQ,hA.c];exact fF)
 exact h2
theorem oh (hO:Ht Y) (hI:Og Y P ts ns xs A c) (h0:0<xs.length):∀ v∈nO Y P ts ns e xs c,fD v=true:=by
 have hw:fD (wv ts)=true:=by rw [←CQ];exact Az _
 intro v hv
 simp only [nO,List.mem_cons,List.not_mem_nil,or_false] at hv
 rcases hv with rfl|rfl|rfl|rfl|rfl|rfl|rfl|rfl|rfl
 ·exact hO.pops
 ·exact hO.CG
 ·rfl
 ·rfl
 ·exact (Ze hO hI h0).1
 ·rfl
 ·exact hw
 ·rfl
 ·rfl
theorem Gp (hY:y7 Y) (hO:Ht Y) (hI:Og Y P ts ns xs A c) (h0:0<xs.length):bT (nO Y P ts ns e xs c)=true:=by
 have hw:aW (wv ts)=true:=by rw [←CQ];exact wH _
 have f1:=(wS hI.gn).2
 have f4:=DV hI.thc
 simp only [bT,nO,aW,hY.cst.abb,hY.cst.MH,f1,hw,f4,(Ze hO hI h0).2,jn,Bool.and_self]
theorem uD:∀ {l:List V},(∀ v∈l,fD v=true)→dO l=true
 |[],_=>rfl
 |v::l,h=>by
  simp only [dO,au]
  exact ⟨acD (h v fF),uD fun x hx=>h x (eX _ hx)⟩
theorem F9:∀ {l:List V},(∀ v∈l,fD v=true)→pV l=true
 |[],_=>rfl
 |v::l,h=>Ut (h v fF) (F9 fun x hx=>h x (eX _ hx))
end
section
variable {Y:Rws} {P:Nat→Nat} {ts:List Nat} {ns xs:List V} {A:Nat→Nat→Nat} {c:V} {e:Bool} {t:Nat}
theorem Jw (hY:y7 Y) (hI:Og Y P ts ns xs A c):ns.length+60≤100000∧uK (Int.ofNat (ns.length+50)) Y.C.most=true:=by
 have htot:=Qm hI.le
 refine ⟨by have:=hI.len;have:=hY.room;omega,?_⟩
 have h1:=hY.most
 have h2:=hI.len
 rw [sO] at h1 ⊢
 simp only [decide_eq_true_eq,Int.ofNat_eq_natCast] at h1 ⊢
 omega
theorem MO (hY:y7 Y) (hI:Og Y P ts ns xs A c):xs.length≤Y.n+1:=by
 rw [hI.m];exact hY.mkn _ (hI.le 0 (Nat.zero_le _))
theorem apa (hY:y7 Y) (hO:Ht Y) (hI:Og Y P ts ns xs A c) (ht:t<xs.length) (hk:P t≠Y.K t) (hb:∀ u,u<t→P u=Y.K u) :
  EvB 25 [Ib Y P ts ns e xs c] (.bool false):=by
 have hxn:=MO hY hI
 obtain ⟨hroom,hM⟩:=Jw hY hI
 have hlt:P t<Y.K t:=by have:=hI.le t (by omega);omega
 obtain ⟨X,hX,hA⟩:=hI.ats t ht
 have aeS:t∉ts:=fun h=>hk ((hI.parked t).1 h).2
 have hts:∀ u∈ts,u≤Y.n:=fun u hu=>by have:=((hI.parked u).1 hu).1;omega
 have lN:=hY.JZ ts t hI.nodup hts (by omega) aeS
 have hwk:(Y.wk t (P t)=.aj∧wv ts=.aj)∨Y.wk t (P t)=KY:=by
  rcases hY.wk t (P t) (by omega) hlt with h|⟨h1,h2,h3⟩
  ·exact .inr h
  ·refine .inl ⟨h1,?_⟩
   subst h2
   cases hq:ts with
   |nil=>rfl
   |cons u us =>
    exfalso
    have hu:u∈ts:=by rw [hq];exact fF
    have h4:=(hI.parked u).1 hu
    have h5:=hI.m
    rw [h3] at h5
    have:u=0:=by omega
    subst this
    omega
 have het:(Nat.beq t 0&&Nat.beq (P t) 0)=Nat.beq (P 0) 0:=by
  by_cases h0:t=0
  ·subst h0;rfl
  ·have h1:P 0≠0:=by
    have:=hb 0 (by omega)
    have:=hY.k0
    omega
   rw [jk h0,jk h1];rfl
 have hrun:=hO.run t (P t) xs.length (by omega) hlt (fun h=>by subst h;exact hI.m) (fun h=>by
  have h1:=hb 0 (by omega)
  rw [hI.m,h1,hY.mkK])
 rw [het] at hrun
 exact Ul hY.cst lN hA.vw hI.gn hroom hM hI.thc rfl hA.inc hA.inx hA.c (fun _=>by rw [hX,hA.x]) (fun u X hu hX=>by
  have:=EP hO hI hxn hX
  rwa [if_pos (hb u hu)] at this) (CQ _) (CQ _) hwk hrun
theorem agh (hY:y7 Y) (hO:Ht Y) (hI:Og Y P ts ns xs A c) (hb:∀ u,u≤Y.n→P u=Y.K u) :
  EvB 25 [Ib Y P ts ns e xs c] (.bool true):=by
 have hxn:=MO hY hI
 obtain ⟨hroom,hM⟩:=Jw hY hI
 have hm:xs.length=Y.n+1:=by rw [hI.m,hb 0 (Nat.zero_le _),hY.mkK]
 obtain ⟨X,hX,hA⟩:=hI.ats 0 (by omega)
 have hts:∀ u∈ts,u≤Y.n:=fun u hu=>by have:=((hI.parked u).1 hu).1;omega
 have lN:=hO.agk ts hI.nodup hts
 have he:Nat.beq (P 0) 0=false:=jk (by have:=hb 0 (Nat.zero_le _);have:=hY.k0;omega)
 rw [hb 0 (Nat.zero_le _)] at hA
 unfold Ib
 rw [he]
 exact Ul hY.cst lN hA.vw hI.gn hroom hM hI.thc hm hA.inc hA.inx hA.c (fun h=>by omega) (fun u X hu hX=>by
  have:=EP hO hI hxn hX
  rwa [if_pos (hb u (by omega))] at this) (CQ _) (CQ _) (.inr rfl) hO.fin
theorem azE (hY:y7 Y) (hO:Ht Y) (hI:Og Y P ts ns xs A c) (h0:0<xs.length) {v:V} (hv:v∈nO Y P ts ns e xs c):pf v=v:=by
 refine Us (oh hO hI h0 v hv) ?_
 have:=Gp (e:=e) hY hO hI h0
 have fl2:∀ (q:List V),bT q=true→∀ c∈q,aW c=true:=by
  intro q
  induction q with
  |nil=>intro _ c hc;simp at hc
  |cons a q ih =>
   intro h c hc
   simp only [bT,au] at h
   simp only [List.mem_cons] at hc
   rcases hc with rfl|hc
   ·exact h.1
   ·exact ih h.2 c hc
 exact fl2 _ this v hv
theorem agq (hY:y7 Y) (hO:Ht Y) (hI:Og Y P ts ns xs A c) (ht:t<xs.length) (hk:P t≠Y.K t) (b:Nat) :
  ∃ u uM e2 xs2 A2 c2 ev,u<xs.length∧P u<Y.K u∧Og Y (upd P u) (KT Y P ts u) uM xs2 A2 c2∧(ev.1≠3∧ev.1≠4∧ev.1≠5) ∧
   EvA Vt yI 28 [.agg (nO Y P ts ns e xs c),jn b,.int .i64 Y.C.deep] (.tuple [.agg (nO Y (upd P u) (KT Y P ts u) uM e2 xs2 c2),QV ev]):=by
 have hxn:=MO hY hI
 have h0:0<xs.length:=by omega
 obtain ⟨bs,hbs⟩:∃ bs:List Bool,bs=(List.range xs.length).map fun u=>!(Nat.beq (P u) (Y.K u)):=⟨_,rfl⟩
 have hbl:bs.length=xs.length:=by rw [hbs];simp
 have hbg:∀ u,u<xs.length→bs[u]?=some (!(Nat.beq (P u) (Y.K u))):=fun u hu=>by
  rw [hbs,List.getElem?_map,List.getElem?_range hu];rfl
 have hmem:t∈runs bs 0:=by
  have:=Tz (bs:=bs) (i:=t) 0 (by rw [hbg t ht,jk hk];rfl)
  rwa [Nat.zero_add] at this
 have hne:runs bs 0≠[]:=fun h=>by rw [h] at hmem;simp at hmem
 have hpos:0<(runs bs 0).length:=List.length_pos_iff.2 hne
 obtain ⟨u,hu⟩:∃ u,(runs bs 0)[b%(runs bs 0).length]?=some u:=⟨_,fM (Nat.mod_lt _ hpos)⟩
 obtain ⟨i,hi,hbi⟩:=Ku (List.mem_of_getElem? hu)
 rw [Nat.zero_add] at hi
 subst hi
 have hul:u<xs.length:=by
                 rw [←hbl];rcases Nat.lt_or_ge u bs.length with h|h;· exact h
                 ·rw [gI h] at hbi;cases hbi
 have huk:P u<Y.K u:=by
  rw [hbg u hul] at hbi
  have h1:=hI.le u (by omega)
  have h2:P u≠Y.K u:=fun h=>by rw [h] at hbi;simp at hbi
  omega
 obtain ⟨uM,e2,xs2,A2,c2,hans,hI2,hev⟩:=ae6 (e:=e) hY hI hul huk
 obtain ⟨k,b1,c1,aIB,k3,k4,k5⟩:=aaZ hev
 refine ⟨u,uM,e2,xs2,A2,c2,(k,b1,c1),hul,huk,hI2,⟨k3,k4,k5⟩,?_⟩
 rw [aIB,Qp,Qp] at hans
 have aIz:Hu bs (Nat.beq (P 0) 0)=true:=by
  by_cases hq:P 0=0
  ·have h1:xs.length=1:=by rw [hI.m,hq,hY.mk0]
   have h2:bs=[true]:=by
    rw [hbs,h1]
    have:Nat.beq (P 0) (Y.K 0)=false:=jk (by have:=hY.k0;omega)
    show [!(Nat.beq (P 0) (Y.K 0))]=_
    rw [this];rfl
   rw [h2,hq]
   exact hO.Dk
  ·rw [jk hq]
   exact hO.col bs (by omega) hne
 have hst:∀ i b X,bs[i]?=some b→xs[0+i]?=some X→aO (cellsD X) 0=bif b then jn 1 else jn 2:=fun i b X h1 h2=>by
  rw [Nat.zero_add] at h2
  have hil:=mZ h2
  rw [hbg i hil] at h1
  cases h1
  rw [EP hO hI hxn h2]
  by_cases hq:P i=Y.K i
  ·rw [if_pos hq,hq];simp
  ·rw [if_neg hq,jk hq];rfl
 have hW:subs (rP (.agg (nO Y P ts ns e xs c)) xs) [wP bs (Nat.beq (P 0) 0)]=[.agg (nO Y P ts ns e xs c)]:=by
  have hp:=Uo (W:=.agg (nO Y P ts ns e xs c)) hI.thc bs 0 (by omega) hst
  rw [List.drop_zero] at hp
  have hpf:=fun v hv=>azE (e:=e) hY hO hI h0 (v:=v) hv
  have g0:=hpf Y.C.ops (by simp [nO])
  have g1:=hpf Y.C.defs (by simp [nO])
  have g2:=hpf (.list ns e) (by simp [nO])
  have g3:=hpf (.int .i64 Y.C.most) (by simp [nO])
  have g4:=hpf c (by simp [nO])
  have g5:=hpf (jn 0) (by simp [nO])
  have g6:=hpf (wv ts) (by simp [nO])
  have g8:=hpf .aj (by simp [nO])
  have hr:∀ i,rP (.agg (nO Y P ts ns e xs c)) xs (.str [i])=pf (aO (nO Y P ts ns e xs c) i):=fun i=>rfl
  simp only [wP,subs,sub,sy,jf,hp,hr]
  simp only [nO,kF,iL,g0,g1,g2,g3,g4,g5,g6,g8]
  rfl
 have h02:0<xs2.length:=by
  rw [hI2.m]
  have h1:=hI2.le 0 (Nat.zero_le _)
  rcases Nat.eq_zero_or_pos (Y.mn (upd P u 0)) with hz|hz
  ·exfalso
   have h2:=hI2.m
   rw [hz] at h2
   have h3:upd P u u≠0:=by rw [upd_same];omega
   exact h3 (hI2.zero u (by omega))
  ·exact hz
 have hpl2:=oh (e:=e2) hO hI2 h02
 have aIC:=Gp (e:=e2) hY hO hI2 h02
 have hfl:=Gp (e:=e) hY hO hI h0
 have hres:=@agp Y.C.ops Y.C.defs (.list ns e) (.int .i64 Y.C.most) c (jn 0) (wv ts) .aj Y.C.ops Y.C.defs (.list uM e2) (.int .i64 Y.C.most) c2 (jn 0) (wv (KT Y P ts u)) (.list xs2 (Nat.beq (upd P u 0) 0)) .aj xs bs (Nat.beq (P 0) 0) b Y.C.deep u k b1 c1
  aIz hW hne hu k3 (uD (oh hO hI h0)) (uD hpl2) hans (by
   show (aW (.agg (nO Y P ts ns e xs c))&&_)=true
   rw [show aW (.agg (nO Y P ts ns e xs c))=bT (nO Y P ts ns e xs c) from by simp only [aW],hfl];rfl) (by
   show aW (.tuple [.agg (nO Y (upd P u) (KT Y P ts u) uM e2 xs2 c2),.agg [jn k,jn b1,jn c1]])=true
   simp only [aW,bT,aIC,jn,Bool.and_self]) (fun h=>by
   have aIU:=F9 hpl2
   have e1:dW (999999+1) [.tuple [.agg (nO Y (upd P u) (KT Y P ts u) uM e2 xs2 c2),.agg [jn k,jn b1,jn c1]]] h=(match dW (999998+1) [.agg (nO Y (upd P u) (KT Y P ts u) uM e2 xs2 c2),.agg [jn k,jn b1,jn c1]] h with|(cs,h)=>lM (.tuple cs) (dW 999999 [] h)):=rfl
   have e2':dW (999998+1) [.agg (nO Y (upd P u) (KT Y P ts u) uM e2 xs2 c2),.agg [jn k,jn b1,jn c1]] h=(match dW 999998 (nO Y (upd P u) (KT Y P ts u) uM e2 xs2 c2) h with|(cs,h)=>lM (.agg cs) (dW 999998 [.agg [jn k,jn b1,jn c1]] h)):=rfl
   show vW (.tuple [.agg (nO Y (upd P u) (KT Y P ts u) uM e2 xs2 c2),.agg [jn k,jn b1,jn c1]]) h=_
   unfold vW
   rw [show (1000000:Nat)=999999+1 from rfl,e1,e2',rG _ h aIU]
   rfl)
 exact hres
end
section
variable {Y:Rws} {mm:iO}
theorem aat (hY:y7 Y) (hO:Ht Y) (hM:WM mm) {sc:List V} {len:Nat} (hsc:∀ i,i<len→∃ b rest,skip i sc=.int .u8 (.ofNat b)::rest∧b<254) :
  ∀ (d:Nat) {P:Nat→Nat} {ts:List Nat} {ns xs:List V} {A:Nat→Nat→Nat} {c:V} {e:Bool} {i:Nat} {es:List (Nat×Nat×Nat)},Og Y P ts ns xs A c→0<xs.length→tot Y.n P+d=tot Y.n Y.K→i+d<len→i+d<100000→es.length≤i→(∀ e∈es,5<e.1) →
   ∃ P2 ts2 uM xs2 A2 c2 e2 es2,Way mm Y.C.deep len sc i (nO Y P ts ns e xs c) es (i+d) (nO Y P2 ts2 uM e2 xs2 c2) es2∧Og Y P2 ts2 uM xs2 A2 c2∧(∀ t,t≤Y.n→P2 t=Y.K t)∧es2.length≤i+d∧(∀ e∈es2,5<e.1)
 |0,P,ts,ns,xs,A,c,e,i,es,hI,h0,hd,hl,hi,hel,hes=>by
  have hall:=aak hI.le (by omega)
  obtain ⟨b,rest,hb,_⟩:=hsc i (by omega)
  exact ⟨P,ts,ns,xs,A,c,e,es,.stop (by omega) ⟨rest,hb⟩ rfl (uD (oh hO hI h0)) (hM.over _ _ (agh hY hO hI hall)),hI,hall,by omega,hes⟩
 |d+1,P,ts,ns,xs,A,c,e,i,es,hI,h0,hd,hl,hi,hel,hes=>by
  have hxn:=MO hY hI
  obtain ⟨t,ht,hk,hbel⟩:∃ t,t<xs.length∧P t≠Y.K t∧∀ u,u<t→P u=Y.K u:=by
   rcases Ri (P:=P) (K:=Y.K) xs.length with h|h
   ·exfalso
    have h1:P 0=Y.K 0:=h 0 h0
    have h2:xs.length=Y.n+1:=by rw [hI.m,h1,hY.mkK]
    have h3:tot Y.n P=tot Y.n Y.K:=by
     have:∀ m,m≤Y.n→tot m P=tot m Y.K:=by
      intro m
      induction m with
      |zero=>intro _;exact h1
      |succ m ih =>
       intro hm
       simp only [tot]
       rw [ih (by omega),h (m+1) (by omega)]
     exact this Y.n (bC _)
    omega
   ·exact h
  obtain ⟨b,rest,hb,hb2⟩:=hsc i (by omega)
  obtain ⟨u,uM,e2,xs2,A2,c2,ev,hul,huk,hI2,hev,hpk⟩:=agq (e:=e) hY hO hI ht hk b
  have hov:=hM.over _ _ (apa (e:=e) hY hO hI ht hk hbel)
  have h02:0<xs2.length:=by
   rcases Nat.eq_zero_or_pos xs2.length with hz|hz
   ·exfalso
    have h3:upd P u u≠0:=by rw [upd_same];omega
    exact h3 (hI2.zero u (by omega))
   ·exact hz
  have aBf:∀ e∈tell es ev,5<e.1:=fun x hx=>by
   unfold tell at hx
   split at hx
   ·exact hes x hx
   ·simp only [List.mem_append,List.mem_singleton] at hx
    rcases hx with hx|rfl
    ·exact hes x hx
    ·obtain ⟨q1,q2,q3⟩:=hev
     omega
  have hlt:=Vb es ev
  obtain ⟨P3,ts3,ns3,xs3,A3,c3,e3,es3,hw,hI3,hall,hl3,hes3⟩:=aat hY hO hM hsc d (e:=e2) (i:=i+1) (es:=tell es ev) hI2 h02 (by rw [Qn (by omega)];omega) (by omega) (by omega) (by omega) aBf
  rw [show i+1+d=i+(d+1) by omega] at hw hl3
  exact ⟨P3,ts3,ns3,xs3,A3,c3,e3,es3,.step (by omega) (by omega) (by omega) ⟨rest,hb⟩ hb2 rfl rfl (uD (oh hO hI2 h02)) hov (hM.pick _ _ hpk) hev hw,hI3,hall,hl3,hes3⟩
end
section
variable {mm:iO} {fns:Nat→Option ak} {h:H}
theorem aC5 {m:Nat} (hm:Nat.ble m 1000000=true):yj .i64 (Int.sub (.ofNat (m+1)) (.ofNat 1))=.ofNat m:=by
 have h1:Int.sub (.ofNat (m+1)) (.ofNat 1)=.ofNat m:=by show (Int.ofNat (m+1))-(Int.ofNat 1)=Int.ofNat m;simp only [Int.ofNat_eq_natCast];omega
 have h2:Nat.blt m 9223372036854775808=true:=by simp [Nat.blt] at hm ⊢;omega
 rw [h1,ame,h2];rfl
theorem aeJ (k a b:Nat) (h:H):vW (.agg [.int .i64 (.ofNat k),.int .i64 (.ofNat a),.int .i64 (.ofNat b)]) h=(.agg [.int .i64 (.ofNat k),.int .i64 (.ofNat a),.int .i64 (.ofNat b)],h):=rfl
set_option maxHeartbeats 4000000 in
theorem afs (hrec:∀ a,aG mm 30 a=none) (hfn:fns 30=some Tab.Vh) (N:Nat) :
  runM mm fns (N+100) (.call 30 [.aj]) [] [] h=.val (.agg [.int .i64 (.ofNat 0),.int .i64 (.ofNat 0),.int .i64 (.ofNat 0)]) h:=by
 rw [dY (hrec _) hfn rfl]
 simp -implicitDefEqProofs only [Tab.Vh,WW,dA,gG,aZ,jh,dD,bI,aK,cu,cO,eY,iE,fU,eP,aP,bD,aX,dB,dh,fO,aU,aS,bU,cZ,bW,pad,aF.ev,aF.evs,lF,dI,eF,bg,dQ,dS,bH,splice,bG,takeN,skip,dO,jg,bY,Nat.reduceAdd,Nat.reduceMul,Nat.reduceSub,Nat.beq,Nat.blt,Nat.ble,leave,finish,resV,eG,mk,eH,fE,kC,gq,fZ,eqK,lH,dZ,dK,iK,gJ,jF,OR.iG,findLabel,bn,iM,fC,leI,aeJ,Nat.mul_one]
set_option maxHeartbeats 4000000 in
theorem ab2 {l:List V} {m k a b:Nat} {r:List V} (hl:l.length=m+1) (hg:skip m l=.agg [.int .i64 (.ofNat k),.int .i64 (.ofNat a),.int .i64 (.ofNat b)]::r) (hm:Nat.ble m 1000000=true) (hrec:∀ a,aG mm 30 a=none) (hfn:fns 30=some Tab.Vh) (N:Nat) :
  runM mm fns (N+100) (.call 30 [.list l false]) [] [] h=.val (.agg [.int .i64 (.ofNat k),.int .i64 (.ofNat a),.int .i64 (.ofNat b)]) h:=by
 have h1:=aC5 hm
 rw [dY (hrec _) hfn rfl]
 simp -implicitDefEqProofs only [Tab.Vh,WW,dA,gG,aZ,jh,dD,bI,aK,cu,cO,eY,iE,fU,eP,aP,bD,aX,dB,dh,fO,aU,aS,bU,cZ,bW,pad,aF.ev,aF.evs,lF,dI,eF,bg,dQ,dS,bH,splice,bG,takeN,skip,dO,jg,bY,Nat.reduceAdd,Nat.reduceMul,Nat.reduceSub,Nat.beq,Nat.blt,Nat.ble,leave,finish,resV,eG,mk,eH,fE,kC,gq,fZ,eqK,lH,dZ,dK,iK,gJ,jF,OR.iG,findLabel,bn,iM,fC,leI,hl,hg,h1,aeJ,Nat.mul_one]
theorem aos {es:List (Nat×Nat×Nat)} (he:∀ e∈es,5<e.1) (hl:es.length≤200000) (hrec:∀ a,aG mm 30 a=none) (hfn:fns 30=some Tab.Vh) :
  ∃ k a b:Nat,k≠3∧k≠4∧∀ N,∀ h:H,runM mm fns (N+100) (.call 30 [evL es]) [] [] h=.val (.agg [.int .i64 (.ofNat k),.int .i64 (.ofNat a),.int .i64 (.ofNat b)]) h:=by
 cases es with
 |nil=>exact ⟨0,0,0,by omega,by omega,fun N h=>afs hrec hfn N⟩
 |cons e es =>
  have hlt:es.length<(e::es).length:=by simp
  obtain ⟨rest,hs⟩:∃ rest,skip es.length ((e::es).map QV)=QV ((e::es)[es.length])::rest:=Kw (show ((e::es).map QV)[es.length]?=some (QV ((e::es)[es.length])) from by rw [List.getElem?_map,fM hlt];rfl)
  have h5:=he _ (List.getElem_mem hlt)
  exact ⟨((e::es)[es.length]).1,((e::es)[es.length]).2.1,((e::es)[es.length]).2.2,by omega,by omega,fun N h=>ab2 (l:=(e::es).map QV) (by simp) hs (by simp at hl ⊢;omega) hrec hfn N⟩
variable {w0 w1 w2 w3 w4 w5 w6 w8 t0 t1 t2 t3 t4 t5 t6 t7 t8 t9 t10:V} {ts:List V} {et:Bool} {k a b tn:Nat} {fuel:Int} {evs:V}
set_option maxHeartbeats 8000000 in
theorem Wp (hrec:∀ a,aG mm 13 a=none) (hfn:fns 13=some Tab.ahX)
  (hlast:∀ N,∀ h:H,runM mm fns (N+100) (.call 30 [evs]) [] [] h=.val (.agg [.int .i64 (.ofNat k),.int .i64 (.ofNat a),.int .i64 (.ofNat b)]) h) (hk3:Nat.beq k 3=false) (hk4:Nat.beq k 4=false) (hev:evs=.aj∨∃ l,evs=.list l false)
  (OV:aG mm 31 [.agg [w0,w1,w2,w3,w4,w5,w6,.list (.agg [.int .i64 (.ofNat 2),t1,t2,t3,t4,t5,t6,t7,t8,t9,t10]::ts) et,.aj]]=some (.bool true))
  (hok:dO [w0,w1,w2,w3,w4,w5,w6]=true) (an0:dO [t1,t2,t3,t4,t5,t6,t7,t8,t9,t10]=true) (N:Nat) :
  runM mm fns (N+300) (.call 13 [.agg [w0,w1,w2,w3,w4,w5,w6,.list (.agg [.int .i64 (.ofNat 2),t1,t2,t3,t4,t5,t6,t7,t8,t9,t10]::ts) et,.aj],evs,.int .i64 fuel,.agg [.int .i64 (.ofNat 0),.int .i64 (.ofNat 0),.int .i64 (.ofNat 0),.int .i64 (.ofNat 0),.int .i64 (.ofNat 0),.aj,.str [],.int .i64 (.ofNat 0),.int .i64 (.ofNat 0),.int .i64 (.ofNat tn)]]) [] [] h
   = .val (.agg [.int .i64 (.ofNat 4),.int .i64 (.ofNat 0),.int .i64 (.ofNat 0),.int .i64 (.ofNat 0),.int .i64 (.ofNat 0),.aj,.str [],.int .i64 (.ofNat 0),.int .i64 (.ofNat 0),.int .i64 (.ofNat tn)]) h:=by
 simp only [dO,au,Bool.and_true] at hok an0
 obtain ⟨p0,p1,p2,p3,p4,p5,p6⟩:=hok
 obtain ⟨q1,q2,q3,q4,q5,q6,q7,q8,q9,q10⟩:=an0
 have hst:=fun N fr lo h=>iZ (fns:=fns) (n:=N) (fr:=fr) (lo:=lo) (h:=h) OV
 have aIF:vZ (.ofNat k) 3=false:=hk3
 have aIH:vZ (.ofNat k) 4=false:=hk4
 have hfz:∀ h:H,vW (.agg [.int .i64 (.ofNat 4),.int .i64 (.ofNat 0),.int .i64 (.ofNat 0),.int .i64 (.ofNat 0),.int .i64 (.ofNat 0),.aj,.str [],.int .i64 (.ofNat 0),.int .i64 (.ofNat 0),.int .i64 (.ofNat tn)]) h=(.agg [.int .i64 (.ofNat 4),.int .i64 (.ofNat 0),.int .i64 (.ofNat 0),.int .i64 (.ofNat 0),.int .i64 (.ofNat 0),.aj,.str [],.int .i64 (.ofNat 0),.int .i64 (.ofNat 0),.int .i64 (.ofNat tn)],h):=fun h=>rfl
 rw [dY (hrec _) hfn rfl]
 rcases hev with rfl|⟨l,rfl⟩<;>simp -implicitDefEqProofs only [Tab.ahX,WW,dA,gG,aZ,jh,dD,bI,aK,cu,cO,eY,iE,fU,eP,aP,bD,aX,dB,dh,fO,aU,aS,bU,cZ,bW,pad,aF.ev,aF.evs,lF,dI,eF,bg,dQ,dS,bH,splice,bG,takeN,skip,dO,jg,bY,Nat.reduceAdd,Nat.reduceMul,Nat.reduceSub,Nat.beq,Nat.blt,Nat.ble,leave,finish,resV,eG,mk,eH,fE,kC,gq,fZ,eqK,lH,dZ,dK,iK,gJ,jF,OR.iG,findLabel,bn,iM,fC,leI,hlast,hk3,hk4,aIF,aIH,hst,hfz,p0,p1,p2,p3,p4,p5,p6,q1,q2,q3,q4,q5,q6,q7,q8,q9,q10,Nat.mul_one]
end
section
variable {mm:iO} {fns:Nat→Option ak} {h h2:H} {src p0 p1 pa pb c0 c1 v1 evs:V} {ix most deep:Int} {nZ len j M:Nat}
variable {w0 w1 w2 w3 w4 w5 w6 w7 w8 x0 x1 x2 x3 x4 x5 x6 x7:V}
set_option maxHeartbeats 8000000 in
theorem agX (hrec:∀ a,aG mm 5 a=none) (hfn:fns 5=some Tab.vf5)
  (hsrc:(∃ l e,src=.list l e))
  (FN:aG mm 7 [src]=some (.tuple [.agg [p0,p1],.agg [pa,pb],.int .i64 (.ofNat 0)]))
  (hcode:aG mm 8 [.agg [p0,p1]]=some (.tuple [.agg [c0,c1],v1,.int .i64 (.ofNat 0)]))
  (hidx:aG mm 9 [p1,.func (.func 10) [] []]=some (.int .i64 ix))
  (WS:aG mm 11 [.agg [c0,c1],.int .i64 ix,.int .i64 most]=some (.tuple [.agg [w0,w1,w2,w3,w4,w5,w6,w7,w8],.int .i64 (.ofNat 0)]))
  (aeV:∀ k,runM mm fns (M+k) (.call 12 [.agg [w0,w1,w2,w3,w4,w5,w6,w7,w8],.hsl nZ 0 len none 1,.int .i64 deep]) [] [] h=.val (.tuple [.agg [x0,x1,x2,x3,x4,x5,x6,x7,.aj],evs,.int .i64 (.ofNat j)]) h2)
  (hend:∀ k,runM mm fns (M+k) (.call 13 [.agg [x0,x1,x2,x3,x4,x5,x6,x7,.aj],evs,.int .i64 deep,.agg [.int .i64 (.ofNat 0),.int .i64 (.ofNat 0),.int .i64 (.ofNat 0),.int .i64 (.ofNat 0),.int .i64 (.ofNat 0),.aj,.str [],.int .i64 (.ofNat 0),.int .i64 (.ofNat 0),.int .i64 (.ofNat j)]]) [] [] h2
   = .val (.agg [.int .i64 (.ofNat 4),.int .i64 (.ofNat 0),.int .i64 (.ofNat 0),.int .i64 (.ofNat 0),.int .i64 (.ofNat 0),.aj,.str [],.int .i64 (.ofNat 0),.int .i64 (.ofNat 0),.int .i64 (.ofNat j)]) h2)
  (hev:evs=.aj∨∃ l,evs=.list l false)
  (hv1:∃ k n,v1=.int k n)
  (hp0:fD p0=true) (hp1:fD p1=true) (hpa:fD pa=true) (hpb:fD pb=true) (hc0:fD c0=true) (hc1:fD c1=true)
  (aA4:dO [w0,w1,w2,w3,w4,w5,w6,w7,w8]=true) (xA:dO [x0,x1,x2,x3,x4,x5,x6,x7]=true) (k:Nat) :
  runM mm fns (M+k+300) (.call 5 [src,.int .i64 most,.int .i64 deep,.hsl nZ 0 len none 1]) [] [] h
   = .val (.agg [.int .i64 (.ofNat 4),.int .i64 (.ofNat 0),.int .i64 (.ofNat 0),.int .i64 (.ofNat 0),.int .i64 (.ofNat 0),.aj,.str [],.int .i64 (.ofNat 0),.int .i64 (.ofNat 0),.int .i64 (.ofNat j)]) h2:=by
 simp only [dO,au,Bool.and_true] at aA4 xA
 obtain ⟨o0,o1,o2,o3,o4,o5,o6,o7,o8⟩:=aA4
 obtain ⟨q0,q1,q2,q3,q4,q5,q6,q7⟩:=xA
 have hpar:=fun N fr lo h=>iZ (fns:=fns) (n:=N) (fr:=fr) (lo:=lo) (h:=h) FN
 have aAO:=fun N fr lo h=>iZ (fns:=fns) (n:=N) (fr:=fr) (lo:=lo) (h:=h) hcode
 have hid:=fun N fr lo h=>iZ (fns:=fns) (n:=N) (fr:=fr) (lo:=lo) (h:=h) hidx
 have hbe:=fun N fr lo h=>iZ (fns:=fns) (n:=N) (fr:=fr) (lo:=lo) (h:=h) WS
 have hpl:∀ q,runM mm fns (M+k+q) (.call 12 [.agg [w0,w1,w2,w3,w4,w5,w6,w7,w8],.hsl nZ 0 len none 1,.int .i64 deep]) [] [] h=.val (.tuple [.agg [x0,x1,x2,x3,x4,x5,x6,x7,.aj],evs,.int .i64 (.ofNat j)]) h2:=fun q=>by
  have:=aeV (k+q);rwa [←Nat.add_assoc] at this
 have hen:∀ q,runM mm fns (M+k+q) (.call 13 [.agg [x0,x1,x2,x3,x4,x5,x6,x7,.aj],evs,.int .i64 deep,.agg [.int .i64 (.ofNat 0),.int .i64 (.ofNat 0),.int .i64 (.ofNat 0),.int .i64 (.ofNat 0),.int .i64 (.ofNat 0),.aj,.str [],.int .i64 (.ofNat 0),.int .i64 (.ofNat 0),.int .i64 (.ofNat j)]]) [] [] h2
   = .val (.agg [.int .i64 (.ofNat 4),.int .i64 (.ofNat 0),.int .i64 (.ofNat 0),.int .i64 (.ofNat 0),.int .i64 (.ofNat 0),.aj,.str [],.int .i64 (.ofNat 0),.int .i64 (.ofNat 0),.int .i64 (.ofNat j)]) h2:=fun q=>by
  have:=hend (k+q);rwa [←Nat.add_assoc] at this
 have hfz:∀ h:H,vW (.agg [.int .i64 (.ofNat 4),.int .i64 (.ofNat 0),.int .i64 (.ofNat 0),.int .i64 (.ofNat 0),.int .i64 (.ofNat 0),.aj,.str [],.int .i64 (.ofNat 0),.int .i64 (.ofNat 0),.int .i64 (.ofNat j)]) h=(.agg [.int .i64 (.ofNat 4),.int .i64 (.ofNat 0),.int .i64 (.ofNat 0),.int .i64 (.ofNat 0),.int .i64 (.ofNat 0),.aj,.str [],.int .i64 (.ofNat 0),.int .i64 (.ofNat 0),.int .i64 (.ofNat j)],h):=fun h=>rfl
 have pl:∀ {v:V},fD v=true→yT v=true∧zL v=false∧isVal v=true:=fun {v} h=>by cases v<;>first|(cases h;done)|exact ⟨rfl,rfl,rfl⟩
 have a0:=pl hp0
 have a1:=pl hp1
 have a2:=pl hpa
 have a3:=pl hpb
 have a4:=pl hc0
 have a5:=pl hc1
 generalize M+k=M0 at *
 obtain ⟨ls,le,rfl⟩:=hsrc
 obtain ⟨vk,vn,rfl⟩:=hv1
 rw [dY (hrec _) hfn rfl]
 rcases hev with rfl|⟨l,rfl⟩
 ·simp -implicitDefEqProofs only [Tab.vf5,WW,dA,gG,aZ,jh,dD,bI,aK,cu,cO,eY,iE,fU,eP,aP,bD,aX,dB,dh,fO,aU,aS,bU,cZ,bW,pad,aF.ev,aF.evs,lF,dI,eF,bg,dQ,dS,bH,splice,bG,takeN,skip,dO,jg,bY,Nat.reduceAdd,Nat.reduceMul,Nat.reduceSub,Nat.beq,Nat.blt,Nat.ble,leave,finish,resV,eG,mk,eH,fE,kC,gq,fZ,eqK,lH,dZ,dK,iK,gJ,jF,OR.iG,findLabel,bn,iM,fC,leI,hpar,aAO,hid,hbe,hpl,hen,hfz,a0.1,a0.2.1,a0.2.2,a1.1,a1.2.1,a1.2.2,a2.1,a2.2.1,a2.2.2,a3.1,a3.2.1,a3.2.2,a4.1,a4.2.1,a4.2.2,a5.1,a5.2.1,a5.2.2,o0,o1,o2,o3,o4,o5,o6,o7,o8,q0,q1,q2,q3,q4,q5,q6,q7,Nat.mul_one]
 ·simp -implicitDefEqProofs only [Tab.vf5,WW,dA,gG,aZ,jh,dD,bI,aK,cu,cO,eY,iE,fU,eP,aP,bD,aX,dB,dh,fO,aU,aS,bU,cZ,bW,pad,aF.ev,aF.evs,lF,dI,eF,bg,dQ,dS,bH,splice,bG,takeN,skip,dO,jg,bY,Nat.reduceAdd,Nat.reduceMul,Nat.reduceSub,Nat.beq,Nat.blt,Nat.ble,leave,finish,resV,eG,mk,eH,fE,kC,gq,fZ,eqK,lH,dZ,dK,iK,gJ,jF,OR.iG,findLabel,bn,iM,fC,leI,hpar,aAO,hid,hbe,hpl,hen,hfz,a0.1,a0.2.1,a0.2.2,a1.1,a1.2.1,a1.2.2,a2.1,a2.2.1,a2.2.2,a3.1,a3.2.1,a3.2.2,a4.1,a4.2.1,a4.2.2,a5.1,a5.2.1,a5.2.2,o0,o1,o2,o3,o4,o5,o6,o7,o8,q0,q1,q2,q3,q4,q5,q6,q7,Nat.mul_one]
end
section
variable {C:Cst} {t m:Nat} {s:Ks} {et:Bool} {wK w p vars:V} {ns xs x:List V} {e:Bool} {A:Nat→Nat} {c:V}
theorem amM {f:Nat} {v:V} (hvp:jO v=true) (hvf:aW v=true) (hC:Qs C) (lN:Cc 438 [w,jn t,zl] (.tuple [p,.int .i64 0])) {l:List V} {cK:V} (hv:Vw A l ns)
  (hok:zH ns=true) (hroom:ns.length+60≤100000) (hM:uK (Int.ofNat (ns.length+50)) C.most=true)
  (hxs:∀ X∈xs,Vo X) (hm:xs.length=m) (hin:qo l.length cK=true) (WT:xB l.length x=true) (hc:sub (rA A) cK=c)
  (htm:t<xs.length→xs[t]?=some (.agg (subs (rA A) x))) (hpk:∀ u X,u<t→xs[u]?=some X→aO (cellsD X) 0=jn 2)
  (hw:pf w=w) (hpp:pf p=p) (hwk:(wK=.aj∧w=.aj)∨wK=KY)
  (hrun:qN (pz (TF l.length C.most (OC C t zl)) oW 1000000 (.call f [lZ C (sy (.gX l)) cK 0 wK (EU t x 0 m) et]) zX bx0 emp) v=true) :
  EvB f [lZ C (.list ns e) c 0 w xs et] v:=by
 have hz:(iH hv hok hroom e xs w p).vV 0=0:=by rw [F5,CV hv.pos,hv.zero]
 have hcc:sub (iH hv hok hroom e xs w p).ro cK=c:=by rw [qA hin,RN hin,hc]
 have hx:subs (iH hv hok hroom e xs w p).ro x=subs (rA A) x:=by
  have h1:qo l.length (.agg x)=true:=by simpa [qo] using WT
  have h2:=qA (hv:=hv) (hok:=hok) (hroom:=hroom) (e:=e) (xs:=xs) (w:=w) (p:=p) h1
  rw [RN h1] at h2
  simp only [sub,V.agg.injEq] at h2
  exact h2
 have hth:=KQ (ρ:=(iH hv hok hroom e xs w p).ro) (x:=x) (t:=t) hxs (by rw [hx];exact htm) hpk (fun u i=>rfl) m 0 (by omega)
 have aeY:sub (iH hv hok hroom e xs w p).ro wK=w:=by
  rcases hwk with ⟨rfl,rfl⟩|rfl
  ·simp only [sub]
  ·rw [KY,sy,jf];exact hw
 have hhp:sub (iH hv hok hroom e xs w p).ro (sy (.gX l))=.list ns e:=by
  rw [sy,jf]
  show V.list ((iH hv hok hroom e xs w p).G l) e=_
  rw [VG]
 have hargs:subs (iH hv hok hroom e xs w p).ro [lZ C (sy (.gX l)) cK 0 wK (EU t x 0 m) et]=[lZ C (.list ns e) c 0 w xs et]:=by
  simp only [lZ,subs,sub,jD _ hC.ops,jD _ hC.defs,hhp,hcc,aeY,hth,List.drop_zero,jn]
 have aeP:bT [lZ C (.list ns e) c 0 w xs et]=true:=by
  have f1:=(wS hok).2
  have f2:aW c=true:=by
   rw [←hc]
   refine uZ cK ?_
   exact Ef cK hin
  have f3:aW w=true:=by rw [←hw];exact wH w
  have f4:=DV hxs
  simp only [bT,lZ,aW,hC.abb,hC.MH,f1,f2,f3,f4,jn,Bool.and_self]
 have:=evK (iH hv hok hroom e xs w p) (k0:=l.length) (M:=C.most) (QW:=OC C t zl) Dv hz hM (aew hC.ops hC.defs (show jO zl=true from rfl) hC.chk lN hw hpp) hrun (by rw [hargs];exact aeP) (by rw [jD _ hvp];exact hvf)
 rw [hargs,jD _ hvp] at this
 exact this
variable {Y:Rws} {P:Nat→Nat} {ts:List Nat} {A:Nat→Nat→Nat}
theorem adq (hY:y7 Y) (hO:Ht Y)
  (hS:qN (pz (TF (Y.R 0 (Y.K 0)).l.length Y.C.most (OC Y.C (Y.n+1) zl)) oW 1000000 (.call 31 [lZ Y.C (sy (.gX (Y.R 0 (Y.K 0)).l)) (Y.R 0 (Y.K 0)).c 0 KY (EU (Y.n+1) (Y.R 0 (Y.K 0)).x 0 (Y.n+1)) false]) zX bx0 emp) (.bool true)=true)
  (hI:Og Y P ts ns xs A c) (hb:∀ u,u≤Y.n→P u=Y.K u):EvB 31 [Ib Y P ts ns e xs c] (.bool true):=by
 have hxn:=MO hY hI
 obtain ⟨hroom,hM⟩:=Jw hY hI
 have hm:xs.length=Y.n+1:=by rw [hI.m,hb 0 (Nat.zero_le _),hY.mkK]
 obtain ⟨X,hX,hA⟩:=hI.ats 0 (by omega)
 have hts:∀ u∈ts,u≤Y.n:=fun u hu=>by have:=((hI.parked u).1 hu).1;omega
 have lN:=hO.agk ts hI.nodup hts
 have he:Nat.beq (P 0) 0=false:=jk (by have:=hb 0 (Nat.zero_le _);have:=hY.k0;omega)
 rw [hb 0 (Nat.zero_le _)] at hA
 unfold Ib
 rw [he]
 exact amM rfl rfl hY.cst lN hA.vw hI.gn hroom hM hI.thc hm hA.inc hA.inx hA.c (fun h=>by omega) (fun u X hu hX=>by
  have:=EP hO hI hxn hX
  rwa [if_pos (hb u (by omega))] at this) (CQ _) (CQ _) (.inr rfl) hS
end
section
variable {Y:Rws} {mm:iO} {fns:Nat→Option ak}
structure WR (mm:iO) (fns:Nat→Option ak):Prop where
 wm:WM mm
 stuck:∀ a v,EvB 31 a v→aG mm 31 a=some v
 run:(∀ a,aG mm 5 a=none)∧fns 5=some Tab.vf5
 play:(∀ a,aG mm 12 a=none)∧fns 12=some Tab.Bh
 ended:(∀ a,aG mm 13 a=none)∧fns 13=some Tab.ahX
 last:(∀ a,aG mm 30 a=none)∧fns 30=some Tab.Vh
theorem ab9 (hY:y7 Y) (hO:Ht Y)
  (hS:qN (pz (TF (Y.R 0 (Y.K 0)).l.length Y.C.most (OC Y.C (Y.n+1) zl)) oW 1000000 (.call 31 [lZ Y.C (sy (.gX (Y.R 0 (Y.K 0)).l)) (Y.R 0 (Y.K 0)).c 0 KY (EU (Y.n+1) (Y.R 0 (Y.K 0)).x 0 (Y.n+1)) false]) zX bx0 emp) (.bool true)=true)
  (hR:WR mm fns) {ns xs:List V} {A:Nat→Nat→Nat} {c:V} {e:Bool} (hI:Og Y (fun _=>0) [] ns xs A c)
  {src p0 p1 pa pb v1:V} {ix:Int} (hsrc:∃ l e,src=.list l e)
  (FN:aG mm 7 [src]=some (.tuple [.agg [p0,p1],.agg [pa,pb],.int .i64 (.ofNat 0)]))
  (hcode:aG mm 8 [.agg [p0,p1]]=some (.tuple [.agg [Y.C.ops,Y.C.defs],v1,.int .i64 (.ofNat 0)]))
  (hidx:aG mm 9 [p1,.func (.func 10) [] []]=some (.int .i64 ix))
  (WS:aG mm 11 [.agg [Y.C.ops,Y.C.defs],.int .i64 ix,.int .i64 Y.C.most]=some (.tuple [.agg (nO Y (fun _=>0) [] ns e xs c),.int .i64 (.ofNat 0)]))
  (hv1:∃ k n,v1=.int k n) (hp0:fD p0=true) (hp1:fD p1=true) (hpa:fD pa=true) (hpb:fD pb=true)
  {h:H} {nZ len:Nat} {sc:List V} (hg:getCells h nZ=some sc) (uj:nZ<h.next) (hlen:tot Y.n Y.K<len) (hsc:∀ i,i<len→∃ b rest,skip i sc=.int .u8 (.ofNat b)::rest∧b<254) :
  ∃ N j h2,∀ k,runM mm fns (N+k) (.call 5 [src,.int .i64 Y.C.most,.int .i64 Y.C.deep,.hsl nZ 0 len none 1]) [] [] h
   = .val (.agg [.int .i64 (.ofNat 4),.int .i64 (.ofNat 0),.int .i64 (.ofNat 0),.int .i64 (.ofNat 0),.int .i64 (.ofNat 0),.aj,.str [],.int .i64 (.ofNat 0),.int .i64 (.ofNat 0),.int .i64 (.ofNat j)]) h2:=by
 have h0:0<xs.length:=by rw [hI.m,hY.mk0];omega
 have hz:∀ m,tot m (fun _=>0)=0:=by
  intro m
  induction m with
  |zero=>rfl
  |succ m ih=>simp only [tot,ih]
 have hrm:=hY.room
 obtain ⟨P2,ts2,uM,xs2,A2,c2,e2,es2,hw,hI2,hall,hl2,hes2⟩:=aat (e:=e) (i:=0) (es:=[]) hY hO hR.wm hsc (tot Y.n Y.K) hI h0 (by rw [hz];omega) (by omega) (by omega) (by simp) (by simp)
 have hxn:=MO hY hI2
 have h02:0<xs2.length:=by rw [hI2.m,hall 0 (Nat.zero_le _),hY.mkK];omega
 have hpl2:=oh (e:=e2) hO hI2 h02
 obtain ⟨N1,h2,aeV,hg2,Zo⟩:=acE (fns:=fns) (h:=h) (nZ:=nZ) (by rfl) (uD (oh hO hI h0)) (F9 hpl2) (by omega) hR.play.1 hR.play.2 hw hg uj
 obtain ⟨k,a,b,hk3,hk4,hlast⟩:=aos (mm:=mm) (fns:=fns) hes2 (by omega) hR.last.1 hR.last.2
 have hx0:xs2[0]?=some xs2[0]:=fM h02
 have hst:=EP hO hI2 hxn hx0
 rw [if_pos (hall 0 (Nat.zero_le _))] at hst
 obtain ⟨cs,hcs,hcl,hcp⟩:=hI2.thc _ (List.getElem_mem h02)
 rw [hcs] at hst
 obtain ⟨rest,hrest⟩:∃ rest,xs2=.agg cs::rest:=by
  cases xs2 with
  |nil=>simp at h02
  |cons x r=>exact ⟨r,by simp at hcs;rw [hcs]⟩
 match cs,hcl with
 |[t0,t1,t2,t3,t4,t5,t6,t7,t8,t9,t10],_ =>
  have ht0:t0=.int .i64 (.ofNat 2):=hst
  subst ht0
  have OV:=hR.stuck _ _ (adq (e:=e2) hY hO hS hI2 hall)
  rw [Qp] at OV
  have an0:dO [t1,t2,t3,t4,t5,t6,t7,t8,t9,t10]=true:=uD fun v hv=>(hcp v (eX _ hv)).1
  have hev:evL es2=.aj∨∃ l,evL es2=.list l false:=by
   cases es2 with
   |nil=>exact .inl rfl
   |cons e es=>exact .inr ⟨_,rfl⟩
  have xA:=uD hpl2
  have hend:∀ k,runM mm fns (N1+300+k) (.call 13 [.agg (nO Y P2 ts2 uM e2 xs2 c2),evL es2,.int .i64 Y.C.deep,.agg [.int .i64 (.ofNat 0),.int .i64 (.ofNat 0),.int .i64 (.ofNat 0),.int .i64 (.ofNat 0),.int .i64 (.ofNat 0),.aj,.str [],.int .i64 (.ofNat 0),.int .i64 (.ofNat 0),.int .i64 (.ofNat (0+tot Y.n Y.K))]]) [] [] h2
   = .val (.agg [.int .i64 (.ofNat 4),.int .i64 (.ofNat 0),.int .i64 (.ofNat 0),.int .i64 (.ofNat 0),.int .i64 (.ofNat 0),.aj,.str [],.int .i64 (.ofNat 0),.int .i64 (.ofNat 0),.int .i64 (.ofNat (0+tot Y.n Y.K))]) h2:=fun q=>by
   subst hrest
   have:=Wp (mm:=mm) (fns:=fns) (h:=h2) (evs:=evL es2) (fuel:=Y.C.deep) (tn:=0+tot Y.n Y.K) hR.ended.1 hR.ended.2 hlast (jk hk3) (jk hk4) hev OV (by
    simp only [nO,dO,au] at xA ⊢
    exact ⟨xA.1,xA.2.1,xA.2.2.1,xA.2.2.2.1,xA.2.2.2.2.1,xA.2.2.2.2.2.1,xA.2.2.2.2.2.2.1,trivial⟩) an0 (N1+q)
   rw [show N1+300+q=N1+q+300 by omega]
   exact this
  refine ⟨N1+300+300,0+tot Y.n Y.K,h2,fun q=>?_⟩
  have hw1:=uD (oh (e:=e) hO hI h0)
  have:=agX (mm:=mm) (fns:=fns) (h:=h) (h2:=h2) (M:=N1+300) (len:=len) (deep:=Y.C.deep) (evs:=evL es2) (j:=0+tot Y.n Y.K) hR.run.1 hR.run.2 hsrc FN hcode hidx WS (fun k=>aeV _ (by omega)) hend hev hv1 hp0 hp1 hpa hpb hO.pops hO.CG hw1 (by
    simp only [nO,dO,au] at xA ⊢
    exact ⟨xA.1,xA.2.1,xA.2.2.1,xA.2.2.2.1,xA.2.2.2.2.1,xA.2.2.2.2.2.1,xA.2.2.2.2.2.2.1,xA.2.2.2.2.2.2.2.1,trivial⟩) q
  rw [show N1+300+300+q=N1+300+q+300 by omega]
  exact this
end
section
noncomputable section
def isN (v:V):Bool:=match v with|.aj=>true|_=>false
def Vz (c:V):V:=bif isN c then .aj else KY
def ao7 (C:Cst) (t m:Nat) (s:Ks):V:=match pz (TF s.l.length C.most (OC C t zl)) oW 1000000 (.call 83 [lZ C (sy (.gX s.l)) s.c 0 (Vz s.c) (DL t s.x 0 m) s.e,jn t,.int .i64 C.deep]) zX bx0 emp with|.val v _=>v|_=>.undef
def aCW (t m:Nat) (v:V):Res:=match cellsD (azr v).1 with
 |w=>match aBx (aO w 7) with
  |ts=>⟨cellsD (aO ts t),hpL (aO w 2),aO w 2,aO w 4,aO w 6,(azr v).2,ts.drop m⟩
def uF (C:Cst) (t:Nat) (s:Ks):Res:=aCW t s.m (ao7 C t s.m s)
def nxR (s:Ks) (r:Res):Ks:=⟨r.x,forget r.x r.c r.l,r.c,0,s.m+r.more.length,false⟩
def nxX (C:Cst) (t:Nat) (s:Ks):Ks:=nxR s (uF C t s)
def kV (C:Cst) (t:Nat):Nat→Ks→Ks
 |0,s=>s
 |n+1,s=>kV C t n (nxX C t s)
def chk (C:Cst) (t m:Nat) (s:Ks) (r:Res):Bool :=
 match V.tuple [lZ C r.hp r.c 0 r.w (DL t r.x 0 m++r.more) false,r.ev] with
 |v=>l9 (ao7 C t m s) v&&(aW v&&(rO s.l r.l&&(ab8 r.l.length r.l&&(Nat.ble r.l.length (s.l.length+3)&&(xB r.l.length r.x&&(qo r.l.length r.c&&(qC r.x&&(Nat.beq r.x.length 11&&(((l9 r.hp (sy (.gX s.l))&&yG r.l s.l)||(l9 r.hp (sy (.list r.l true))||l9 r.hp (sy (.list r.l false))))&&(jO r.ev&&(aaY r.ev&&xB r.l.length r.more)))))))))))
variable {C:Cst} {t m:Nat} {s:Ks} {r:Res}
theorem ao8 {v:V} (h:l9 (ao7 C t m s) v=true) (hv:v≠.undef):qN (pz (TF s.l.length C.most (OC C t zl)) oW 1000000 (.call 83 [lZ C (sy (.gX s.l)) s.c 0 (Vz s.c) (DL t s.x 0 m) s.e,jn t,.int .i64 C.deep]) zX bx0 emp) v=true:=by
 unfold ao7 at h
 cases hr:pz (TF s.l.length C.most (OC C t zl)) oW 1000000 (.call 83 [lZ C (sy (.gX s.l)) s.c 0 (Vz s.c) (DL t s.x 0 m) s.e,jn t,.int .i64 C.deep]) zX bx0 emp with
 |val u g=>rw [hr] at h;exact h
 |_=>rw [hr] at h;exact absurd (jS h).symm hv
theorem V4 (h:chk C t m s r=true):Y6 C t m s s.e (Vz s.c) r:=by
 unfold chk at h
 simp only [au,gu] at h
 obtain ⟨h1,h2,h3,h4,h5,h6,h7,h8,h9,h10,h11,h12,h13⟩:=h
 exact {
  run:=ao8 h1 (by intro h;cases h)
  flat:=h2
  same:=h3
  nodes:=h4
  grow:=Nat.le_of_ble_eq_true h5
  inx:=h6
  inc:=h7
  cells:=h8
  eleven:=aJ h9
  hp:=by
   rcases h10 with ⟨q1,q2⟩|q|q
   ·exact .inl ⟨jS q1,uh _ _ q2⟩
   ·exact .inr ⟨true,jS q⟩
   ·exact .inr ⟨false,jS q⟩
  ev:=⟨h11,h12⟩
  inm:=h13 }
def apB (C:Cst) (t:Nat) (last:Bool) (s:Ks) (r:Res):Bool :=
 chk C t s.m s r&&(fewer (nxR s r).l r.l&&(Nat.beq (nxR s r).l.length r.l.length&&((bif last then l9 r.w (sy (.tuple [.bool true,jn t,zl])) else l9 r.w (Vz s.c))&&(kX r.c&&l9 (aO s.x 0) (jn 1)))))
structure amE (C:Cst) (t:Nat) (last:Bool) (s:Ks) (r:Res):Prop where
 chk:chk C t s.m s r=true
 fw:fewer (nxR s r).l r.l=true
 ln:(nxR s r).l.length=r.l.length
 w:r.w=bif last then sy (.tuple [.bool true,jn t,zl]) else Vz s.c
 oc:kX r.c=true
 x0:aO s.x 0=jn 1
theorem aae {last:Bool} (h:apB C t last s r=true):amE C t last s r:=by
 unfold apB at h
 simp only [au] at h
 obtain ⟨h1,h2,h3,h4,h5,h6⟩:=h
 exact ⟨h1,h2,aJ h3,by cases last<;>exact jS h4,h5,jS h6⟩
def Eo (C:Cst) (t:Nat) (end_:Bool):Nat→Ks→Bool
 |0,s=>!end_||l9 (aO s.x 0) (jn 2)
 |n+1,s=>match uF C t s with
  |r=>apB C t (end_&&Nat.beq n 0) s r&&((r.more.isEmpty&&l9 r.c s.c)&&(!(isN s.c)&&Eo C t end_ n (nxR s r)))
def pR (C:Cst) (t m:Nat):Nat→Ks→Bool
 |0,_=>true
 |n+1,s=>match uF C t s with|r=>chk C t m s r&&pR C t m n (nxR s r)
theorem jK:∀ {n:Nat} {s:Ks},pR C t m n s=true→∀ k,k<n→chk C t m (kV C t k s) (uF C t (kV C t k s))=true
 |0,s,_,k,hk=>by omega
 |n+1,s,h,0,_=>by
  simp only [pR,au] at h
  exact h.1
 |n+1,s,h,k+1,hk=>by
  simp only [pR,au] at h
  exact jK (s:=nxX C t s) h.2 k (by omega)
structure Fb (C:Cst) (t:Nat) (last:Bool) (s:Ks):Prop where
 st:amE C t last s (uF C t s)
 more:(uF C t s).more=[]
 c:(uF C t s).c=s.c
 n:isN s.c=false
theorem qy {end_:Bool}:∀ {n:Nat} {s:Ks},Eo C t end_ n s=true→(∀ k,k<n→Fb C t (end_&&Nat.beq (k+1) n) (kV C t k s))∧(end_=true→aO (kV C t n s).x 0=jn 2)
 |0,s,h=>by
  refine ⟨fun k hk=>by omega,fun he=>?_⟩
  subst he
  simp only [Eo,Bool.not_true,Bool.false_or] at h
  exact jS h
 |n+1,s,h=>by
  simp only [Eo,au,Bool.not_eq_true',List.isEmpty_iff] at h
  obtain ⟨h1,⟨h2,h3⟩,h4,h5⟩:=h
  obtain ⟨g1,g2⟩:=qy (s:=nxX C t s) h5
  refine ⟨fun k hk=>?_,g2⟩
  cases k with
  |zero =>
   refine ⟨?_,h2,jS h3,h4⟩
   have:=aae h1
   rwa [show Nat.beq n 0=Nat.beq (0+1) (n+1) by cases n<;>rfl] at this
  |succ k=>exact g1 k (by omega)
end
end
end Go.Vx
