/- A part of the proof of TopLocks. -/
import Derived.Laws.IdiomStrings
import Derived.Laws.BytesArg
import Derived.Laws.MakeOwn
import Derived.RangeFuncLeaves
import Derived.Test.YtbbcoelimmpbaaaGreatDoorVab
set_option linter.all false
set_option linter.unusedVariables false
set_option linter.unusedSimpArgs false
set_option maxRecDepth 1000000
noncomputable section
open Go Go.RowKit
namespace Go.Vx
section
variable {P:Program} {comp:FuncId→Code→aH} {g g':G} {σ σ':H} {w w':World} {β:Nat→Option Nat} {lo lo':Lo} {fr:List V} {A:Act}
theorem xk {v:V} {X:Value} {d y n:Nat} (hX:Rs g β v X) (h:bound (some v) d y=some n) :
  (∀ y' c,y≤y'→(Instr.sliceBound X y' c).run P w=.ok n w)∧n≤y:=by
 cases v<;>try (simp [bound] at h;done)
 rename_i k' m
 cases m with
 |negSucc m=>simp [bound] at h
 |ofNat m =>
 simp only [bound] at h
 generalize hq:Nat.ble m y=q at h
 cases q
 ·cases h
 simp only [cond_true,aC] at h
 subst h
 have hle:m≤y:=Nat.le_of_ble_eq_true hq
 have hX':=jv hX rfl
 refine ⟨fun y' c hy=>?_,hle⟩
 have h0:(0:Int)≤Int.ofNat m∧Int.ofNat m≤(y':Int):=⟨Int.natCast_nonneg m,by simpa using (by omega:m≤y')⟩
 simp only [Instr.sliceBound,hX',asIntOf,aA,Sem.run_pure,Result.andThen,if_pos h0]
 rfl
inductive Rso (g:G) (β:Nat→Option Nat):Option V→Option Value→Prop
 |none:Rso g β none none
 |some {v:V} {X:Value} (h:Rs g β v X):Rso g β (some v) (some X)
theorem Rso.ev (hf:wL g β fr A.tmps) {x:Option Operand} {x':Option aF} (h:x.mapM bQ=Option.some x'):Rso g β (lF x' fr) (x.map A.eval):=by
 cases x with
 |none=>simp at h;subst h;exact .none
 |some x =>
  simp only [Option.mapM_some] at h
  cases hc:bQ x with
  |none=>simp [hc] at h
  |some y=>simp [hc] at h;subst h;exact .some (Rs.ev hf hc)
theorem wI {lo hi mx:Option V} {lx hx mxx:Option Value} {len cap cap' l hh m:Nat} (sl:Bool) (rl:Rso g β lo lx) (rh:Rso g β hi hx) (rm:Rso g β mx mxx)
  (hc:cap≤cap') (hlen:len≤cap) (h:je len cap lo hi mx=some (l,hh,m)) :
  (Instr.sliceBounds sl len cap' lx hx mxx).run P w=.ok (l,hh,if mx.isSome then m else cap') w∧l≤hh∧hh≤m∧m≤cap∧(mx=none→m=cap):=by
 have fin:(mx.isSome=true→hi.isSome=true)∧∃ m',bound mx cap cap=some m'∧∃ h',bound hi len m'=some h'∧∃ l',bound lo 0 h'=some l'∧l'=l∧h'=hh∧m'=m:=by
  unfold je at h
  split at h
  ·cases h
  ·rename_i hno
   refine ⟨fun hm=>?_,?_⟩
   ·cases mx with
    |none=>cases hm
    |some a=>cases hi with
     |none=>exact absurd rfl (hno a rfl)
     |some b=>rfl
   ·cases h1:bound mx cap cap with
    |none=>rw [h1] at h;cases h
    |some m' =>
     rw [h1] at h;dsimp only at h
     cases h2:bound hi len m' with
     |none=>rw [h2] at h;cases h
     |some h' =>
      rw [h2] at h;dsimp only at h
      cases h3:bound lo 0 h' with
      |none=>rw [h3] at h;cases h
      |some l' =>
       rw [h3] at h
       simp only [aC,Prod.mk.injEq] at h
       exact ⟨m',rfl,h',h2,l',h3,h.1,h.2.1,h.2.2⟩
 obtain ⟨hsome,m',h1,h',h2,l',h3,rfl,rfl,rfl⟩:=fin
 cases rm with
 |none =>
  simp only [bound,aC] at h1
  subst h1
  cases rh with
  |none =>
   simp only [bound,aC] at h2
   subst h2
   cases rl with
   |none =>
    simp only [bound,aC] at h3
    subst h3
    exact ⟨by simp [Instr.sliceBounds,Result.andThen],Nat.zero_le _,hlen,bC _,fun _=>rfl⟩
   |some hl =>
    obtain ⟨b1,b2⟩:=xk (P:=P) (w:=w) hl h3
    refine ⟨?_,b2,hlen,bC _,fun _=>rfl⟩
    simp [Instr.sliceBounds,Result.andThen,b1]
  |some hh =>
   obtain ⟨c1,c2⟩:=xk (P:=P) (w:=w) hh h2
   cases rl with
   |none =>
    simp only [bound,aC] at h3
    subst h3
    exact ⟨by simp [Instr.sliceBounds,Result.andThen,c1 _ _ hc],Nat.zero_le _,c2,bC _,fun _=>rfl⟩
   |some hl =>
    obtain ⟨b1,b2⟩:=xk (P:=P) (w:=w) hl h3
    refine ⟨?_,b2,c2,bC _,fun _=>rfl⟩
    simp [Instr.sliceBounds,Result.andThen,b1,c1 _ _ hc]
 |some hm =>
  obtain ⟨d1,d2⟩:=xk (P:=P) (w:=w) hm h1
  cases rh with
  |none=>simp at hsome
  |some hh =>
   obtain ⟨c1,c2⟩:=xk (P:=P) (w:=w) hh h2
   cases rl with
   |none =>
    simp only [bound,aC] at h3
    subst h3
    exact ⟨by simp [Instr.sliceBounds,Result.andThen,c1,d1 _ _ hc],Nat.zero_le _,c2,d2,fun e=>by cases e⟩
   |some hl =>
    obtain ⟨b1,b2⟩:=xk (P:=P) (w:=w) hl h3
    refine ⟨?_,b2,c2,d2,fun e=>by cases e⟩
    simp [Instr.sliceBounds,Result.andThen,b1,c1,d1 _ _ hc]
end
section
variable {P:Program} {comp:FuncId→Code→aH} {g g':G} {σ σ':H} {w w':World} {β:Nat→Option Nat} {lo lo':Lo} {fr:List V} {A:Act}
theorem Rv.ahn {xs:List V} {ex ex':Bool} {a:Option Addr} {n cap cap' sz l hh:Nat} (h:Rv g (.list xs ex) (.slice a n cap)) (hsz:AZ sz xs=true) (h1:l≤hh) (h2:hh≤n) (h3:hh≤cap') (he:ex'=true→cap'=hh) :
  n=xs.length∧n≤cap∧(ex=true→cap=n)∧Rv g (.list ((xs.take hh).drop l) ex') (.slice (if cap'=l then a else a.map (·.add (l*sz))) (hh-l) (cap'-l)):=by
 cases h with
 |@list _ _ b o _ k vs hk hc hex hpn hv hr =>
 refine ⟨rfl,hc,hex,?_⟩
 have hlen:((xs.take hh).drop l).length=hh-l:=by simp;omega
 have hget:∀ i,((xs.take hh).drop l)[i]?=if l+i<hh then xs[l+i]? else none:=by
  intro i;rw [List.getElem?_drop,List.getElem?_take]
 have hmem:∀ x∈(xs.take hh).drop l,x∈xs:=fun x hx=>List.mem_of_mem_take (List.mem_of_mem_drop hx)
 by_cases hq:l=hh
 ·subst hq
  have hnil:(xs.take l).drop l=[]:=List.eq_nil_of_length_eq_zero (by omega)
  rw [hnil]
  have aux:∀ b o,Rv g (.list [] ex') (.slice (some ⟨b,o,none⟩) (l-l) (cap'-l)):=fun b o=>by
   have:l-l=([]:List V).length:=by simp
   rw [this]
   exact .list (ex:=ex') 0 (fun _ _=>Go.undef) (by simp) (by simp) (fun e=>by simp [he e]) (by simp) (fun i x j c e=>by simp at e) (fun i x j c e=>by simp at e)
  by_cases e:cap'=l
  ·rw [if_pos e];exact aux _ _
  ·rw [if_neg e]
   simp only [bP,lK]
   exact aux _ _
 ·have hks:k=sz:=by
   cases xs with
   |nil=>simp at h2;omega
   |cons x xs =>
    have:=hk x (by simp)
    simp only [AZ] at hsz
    have:=aJ hsz
    omega
  subst hks
  rw [if_neg (by omega)]
  simp only [bP,lK]
  have:=Rv.list (g:=g) (xs:=(xs.take hh).drop l) (ex:=ex') (b:=b) (o:=o+l*k) (cap:=cap'-l) k (fun i j=>vs (l+i) j) (fun x hx=>hk x (hmem x hx)) (by omega) (fun e=>by have:=he e;omega) (fun x hx=>hpn x (hmem x hx))
   (fun i x j c e e'=>by
    rw [hget] at e
    split at e
    ·have:=hv (l+i) x j c e e'
     have e2:o+l*k+i*k+j=o+(l+i)*k+j:=by rw [Nat.add_mul];omega
     rw [e2];exact this
    ·cases e)
   (fun i x j c e e'=>by
    rw [hget] at e
    split at e
    ·exact hr (l+i) x j c e e'
    ·cases e)
  rw [hlen] at this
  exact this
theorem Rv.apF {bs:ByteArray} {l hh:Nat}:Rv g (.str (((bs.data.toList.map UInt8.toNat).take hh).drop l)) (.string (bs.extract l hh)):=by
 have:((bs.data.toList.map UInt8.toNat).take hh).drop l=(bs.extract l hh).data.toList.map UInt8.toNat:=by
  simp [ByteArray.data_extract,List.map_drop,List.map_take,List.drop_take]
 rw [this]
 exact .str _
theorem G9 {d:Nat} {o:Oper} {x:Operand} {x':aF} {lw hi mx:Option Operand} {lw' hi' mx':Option aF} {t:TypeId} {ds:TypeDesc} {st:Bool} {sz:Nat} (hu:P.underlying t=some ds)
  (hd:(st=true∧ds=.string)∨(st=false∧∃ el,ds=.slice el∧kM P el=some sz)) (hx:bQ x=some x') (hl:lw.mapM bQ=some lw') (hh:hi.mapM bQ=some hi') (hm:mx.mapM bQ=some mx')
  (ho:o.op=.slice t x lw hi mx):Sound P comp d (.slice st sz x' lw' hi' mx') o:=by
 intro g β σ lo fr A w v lo' σ' h e
 have rl:=Rso.ev h.f hl
 have rh:=Rso.ev h.f hh
 have rm:=Rso.ev h.f hm
 have hr:=Rs.ev h.f hx
 have hrun:∀ (X:Value),(Instr.slice t (A.eval x) (lw.map A.eval) (hi.map A.eval) (mx.map A.eval)).run P w=.ok X w→(execOp A.eval o).run P w=.ok (.value X) w:=by
  intro X hX
  have hne:(Instr.sliceAt t (A.eval x) (lw.map A.eval) (hi.map A.eval) (mx.map A.eval)).run P w=.ok X w:=by
   rw [←hX]
   rcases hd with ⟨_,rfl⟩|⟨_,el,rfl,_⟩<;>simp [Instr.sliceAt,aA,run_underlying hu,Result.andThen]
  simp only [execOp,ho,aA,hne,Result.andThen,Sem.run_pure]
 simp only [aZ,dh] at e
 generalize lF lw' fr=vl at e rl
 generalize lF hi' fr=vh at e rh
 generalize lF mx' fr=vm at e rm
 generalize hv:x'.ev fr=vx at e hr
 generalize hX:A.eval x=X at hr
 rw [hX] at hrun
 cases vx<;>try (cases e;done)
 ·rename_i s
  rcases hd with ⟨rfl,rfl⟩|⟨rfl,el,rfl,hs⟩
  ·simp only [cond_true] at e
   have eo:=yR e
   clear e
   obtain ⟨e,rfl,rfl⟩:=eo
   obtain ⟨bs,rfl,rfl⟩:=sS hr rfl
   cases vm with
   |some _=>cases e
   |none =>
   simp only [KA] at e
   cases hb:je (bs.data.toList.map UInt8.toNat).length (bs.data.toList.map UInt8.toNat).length vl vh none with
   |none=>rw [hb] at e;cases e
   |some p =>
    obtain ⟨l,h',m⟩:=p
    rw [hb] at e
    simp only [aC] at e
    subst e
    cases hmx:mx.map A.eval with
    |some _=>rw [hmx] at rm;cases rm
    |none =>
    rw [hmx] at rm hrun
    obtain ⟨k1,k2,k3,k4,k5⟩:=wI (P:=P) (w:=w) (cap':=bs.size) false rl rh rm (by simp) (bC _) hb
    have hsz:(bs.data.toList.map UInt8.toNat).length=bs.size:=by simp
    rw [hsz] at k1
    refine .pure h (hrun (.string (bs.extract l h')) ?_) (.dP Rv.apF)
    simp [Instr.slice,aA,run_underlying hu,Result.andThen,k1]
  ·cases e
 ·rcases hd with ⟨rfl,rfl⟩|⟨rfl,el,rfl,hs⟩
  ·cases e
  simp only [cond_false] at e
  have eo:=yR e
  clear e
  obtain ⟨e,rfl,rfl⟩:=eo
  cases hr
  simp only [Kz] at e
  cases hb:je 0 0 vl vh vm with
  |none=>rw [hb] at e;cases e
  |some p =>
   obtain ⟨l,h',m⟩:=p
   rw [hb] at e
   simp only [aC] at e
   subst e
   obtain ⟨k1,k2,k3,k4,k5⟩:=wI (P:=P) (w:=w) (cap':=0) true rl rh rm (bC _) (bC _) hb
   have hm0:m=0:=by omega
   have hh0:h'=0:=by omega
   have hl0:l=0:=by omega
   subst hm0 hh0 hl0
   refine .pure h (hrun (.slice none 0 0) ?_) (.dP .aj)
   simp [Instr.slice,aA,run_underlying hu,Result.andThen,k1,iV hs]
 ·rename_i xs ex
  rcases hd with ⟨rfl,rfl⟩|⟨rfl,el,rfl,hs⟩
  ·cases e
  simp only [cond_false] at e
  have eo:=yR e
  clear e
  obtain ⟨e,rfl,rfl⟩:=eo
  have Lc:Rv g (.list xs ex) X:=hr
  simp only [AO] at e
  generalize hq:AZ sz xs=q at e
  cases q
  ·cases e
  simp only [cond_true] at e
  cases hb:je xs.length xs.length vl vh vm with
  |none=>rw [hb] at e;cases e
  |some p =>
   obtain ⟨l,h',m⟩:=p
   rw [hb] at e
   simp only [aC] at e
   subst e
   have hXs:∃ a n cap,X=.slice a n cap∧n=xs.length∧n≤cap∧(ex=true→cap=n):=by
    cases Lc with
    |list k vs hk hc he _ hv hr=>exact ⟨_,_,_,rfl,rfl,hc,he⟩
   obtain ⟨a,n,cap,rfl,hn,hcap,hex⟩:=hXs
   obtain ⟨k1,k2,k3,k4,k5⟩:=wI (P:=P) (w:=w) (cap':=cap) true rl rh rm (by omega) (bC _) hb
   have hcl:h'≤(if vm.isSome then m else cap):=by split<;>omega
   obtain ⟨_,_,_,hsub⟩:=Lc.ahn (ex':=YC vm m h' ex xs.length) (cap':=if vm.isSome then m else cap) (sz:=sz) (l:=l) (hh:=h') hq k2 (by omega) hcl (fun e=>by
    cases vm with
    |some _=>simp only [YC] at e;simpa using aJ e
    |none =>
     simp only [YC,au] at e
     have e1:=hex e.1
     have e2:=aJ e.2
     simp;omega)
   refine .pure h (hrun _ ?_) (.dP hsub)
   rw [hn]
   simp only [Instr.slice,aA,run_underlying hu,Result.andThen,k1,iV hs,Sem.run_pure]
 ·rename_i id off len cap sz'
  rcases hd with ⟨rfl,rfl⟩|⟨rfl,el,rfl,hs⟩
  ·cases e
  simp only [cond_false] at e
  have eo:=yR e
  clear e
  obtain ⟨e,rfl,rfl⟩:=eo
  simp only [Ky] at e
  generalize hq:Nat.beq sz sz'=q at e
  cases q
  ·cases e
  simp only [cond_true] at e
  have:=aJ hq
  subst this
  cases hr with
  |@hsl _ b n _ _ _ c' _ hρ hlc hcap hn =>
  cases hb:je len (cap.getD len) vl vh vm with
  |none=>rw [hb] at e;cases e
  |some p =>
   obtain ⟨l,h',m⟩:=p
   rw [hb] at e
   dsimp only at e
   have hcg:cap.getD len≤c'∧len≤cap.getD len:=by
    cases cap with
    |none=>exact ⟨hlc,bC _⟩
    |some c=>have:=hcap c rfl;simp;omega
   obtain ⟨k1,k2,k3,k4,k5⟩:=wI (P:=P) (w:=w) (cap':=c') true rl rh rm hcg.1 hcg.2 hb
   have hrun2:=hrun (.slice (if (if vm.isSome then m else c')=l then some ⟨b,off,none⟩ else some ⟨b,off+l*sz,none⟩) (h'-l) ((if vm.isSome then m else c')-l)) (by
    simp only [Instr.slice,aA,run_underlying hu,Result.andThen,k1,iV hs,Sem.run_pure,bP,lK])
   generalize hq2:(Nat.beq l m&&!Nat.beq l 0)=q2 at e
   cases q2
   ·simp only [cond_false,aC] at e
    subst e
    refine .pure h hrun2 (.dP ?_)
    have hoff:(if (if vm.isSome then m else c')=l then some (⟨b,off,none⟩:Addr) else some ⟨b,off+l*sz,none⟩)=some ⟨b,off+l*sz,none⟩:=by
     by_cases he:(if vm.isSome then m else c')=l
     ·rw [if_pos he]
      have hlm:l=m:=by
       cases vm with
       |some _=>simp at he;exact he.symm
       |none=>simp at he;have:=k5 rfl;omega
      have:l=0:=by
       subst hlm
       rw [VR,Bool.true_and] at hq2
       cases l with
       |zero=>rfl
       |succ l=>simp at hq2
      subst this
      simp
     ·rw [if_neg he]
    rw [hoff]
    have hmc:(if vm.isSome then m else c')≤c':=by split<;>omega
    have hhc:h'≤(if vm.isSome then m else c'):=by split<;>omega
    refine .hsl hρ (by omega) (fun c hc=>?_) ?_
    ·cases vm with
     |some _=>simp at hc ⊢;exact hc
     |none =>
      cases cap with
      |none=>cases hc
      |some c2 =>
       have:=hcap c2 rfl
       simp [ad2] at hc ⊢
       omega
    ·have:l*sz+((if vm.isSome then m else c')-l)*sz≤c'*sz:=by
      rw [←Nat.add_mul]
      exact Nat.mul_le_mul_right _ (by omega)
     omega
   ·simp only [cond_true,aC] at e
    subst e
    simp only [au] at hq2
    have hlm:=aJ hq2.1
    refine .pure h hrun2 (.dP ?_)
    have h0:h'-l=([]:List V).length:=by simp;omega
    rw [h0]
    have aux:∀ b o c,Rv g (.list [] false) (.slice (some ⟨b,o,none⟩) ([]:List V).length c):=fun b o c =>
     .list (ex:=false) 0 (fun _ _=>Go.undef) (by simp) (by simp) (fun e=>by cases e) (by simp) (fun i x j c e=>by simp at e) (fun i x j c e=>by simp at e)
    by_cases he:(if vm.isSome then m else c')=l
    ·rw [if_pos he];exact aux _ _ _
    ·rw [if_neg he];exact aux _ _ _
end
section
variable {P:Program} {comp:FuncId→Code→aH} {g g':G} {σ σ':H} {w w':World} {β:Nat→Option Nat} {lo lo':Lo} {fr:List V} {A:Act}
theorem pU (l:List Nat):ofBytes l=l.map fun b=>V.int .u8 (.ofNat b):=by
 induction l with
 |nil=>rfl
 |cons a l ih=>simp [ofBytes,ih]
theorem LW {d:Nat} {o:Oper} {x:Operand} {x':aF} {s t el:TypeId} (hs:P.underlying s=some .string) (ht:P.underlying t=some (.slice el)) (he:P.underlying el=some (.int .u8)) (hx:bQ x=some x') (ho:o.op=.convert s t x) :
  Sound P comp d (.jV x') o:=by
 intro g β σ lo fr A w v lo' σ' h e
 have hr:=Rs.ev h.f hx
 simp only [aZ,jU] at e
 generalize hv:x'.ev fr=vx at e hr
 cases vx<;>try (cases e;done)
 rename_i l
 simp only [OR.ok.injEq] at e
 obtain ⟨rfl,rfl,rfl⟩:=e
 obtain ⟨bs,hb,rfl⟩:=sS hr rfl
 have hrun:=run_bytes_of_string (P:=P) w s t el bs hs ht he
 have hge:=grownCap_ge w bs.size 0 el
 generalize hC:grownCap w bs.size 0 el=cap at hrun hge
 refine nU.frozen h (c:=bytesRow bs cap) (e:=el) (fz:=((bytesRow bs cap).size,(bytesRow bs cap).size+1)) (x:=.slice (some ⟨w.heap.size,0,none⟩) bs.size cap)
  (w':=w.drew.alloc (.cells (bytesRow bs cap) el ((bytesRow bs cap).size,(bytesRow bs cap).size+1))) ⟨rfl,rfl,rfl,rfl⟩ ?_ ?_
 ·simp only [execOp,ho,hb,aA,hrun,Result.andThen,Sem.run_pure]
 ·have hlen:(ofBytes (bs.data.toList.map UInt8.toNat)).length=bs.size:=by simp [pU]
  rw [←hlen]
  have hcell:∀ (i:Nat) (x:V) (j:Nat) (c:V),(ofBytes (bs.data.toList.map UInt8.toNat))[i]?=some x→x.cells[j]?=some c→∃ z,(bytesRow bs cap)[0+i*1+j]?=some z∧Rv (g.freeze w.heap.size (bytesRow bs cap)) c z:=by
   intro i x j c hx hj
   rw [pU] at hx
   simp at hx
   obtain ⟨b,hb,rfl⟩:=hx
   have hj0:j=0:=by
    cases j with
    |zero=>rfl
    |succ j=>simp [V.cells] at hj
   subst hj0
   simp [V.cells] at hj
   subst hj
   have hi:=(fG.1 hb)
   refine ⟨.int .u8 b.toNat,?_,.int _ _⟩
   have hlt:=hi.1
   have h2:=hi.2
   have e0:0+i*1+0=i:=by omega
   rw [e0,bytesRow,Array.getElem?_append_left (by simpa using hlt)]
   simp [hb]
  refine .list 1 (fun i j=>((bytesRow bs cap)[0+i*1+j]?).getD Go.undef) (fun x hx=>?_) (by omega) (fun e=>by cases e) (fun _ _ _ h=>h.2 rfl) (fun i x j c hx hj=>?_) (fun i x j c hx hj=>?_)
  ·rw [pU] at hx
   simp at hx
   obtain ⟨b,_,rfl⟩:=hx
   rfl
  ·obtain ⟨z,hz,_⟩:=hcell i x j c hx hj
   rw [G.wu,hz];rfl
  ·obtain ⟨z,hz,yK⟩:=hcell i x j c hx hj
   rw [hz];exact yK
end
section
variable {P:Program} {comp:FuncId→Code→aH} {g g':G} {σ σ':H} {w w':World} {β:Nat→Option Nat} {lo lo':Lo} {fr:List V} {A:Act}
theorem yB:∀ {cs:List V} {ns:List Nat},bytesOf cs=some ns→cs=ns.map (fun n=>V.int .u8 (.ofNat n))∧∀ n∈ns,n<256
 |[],ns,h=>by simp [bytesOf] at h;subst h;simp
 |c::cs,ns,h=>by
  unfold bytesOf at h
  split at h
  ·rename_i n
   generalize hq:Nat.blt n 256=q at h
   cases q
   ·cases h
   simp only [cond_true] at h
   cases hb:bytesOf cs with
   |none=>rw [hb] at h;cases h
   |some r =>
    rw [hb] at h
    simp only [aC] at h
    subst h
    obtain ⟨h1,h2⟩:=yB hb
    refine ⟨by simp [h1],fun m hm=>?_⟩
    rcases List.mem_cons.1 hm with rfl|hm
    ·exact qp hq
    ·exact h2 m hm
  ·cases h
def strOf (ns:List Nat):ByteArray:=⟨(ns.map UInt8.ofNat).toArray⟩
theorem ahm {ns:List Nat} (h:∀ n∈ns,n<256):Rv g (.str ns) (.string (strOf ns)):=by
 have:ns=(strOf ns).data.toList.map UInt8.toNat:=by
  simp [strOf]
  apply List.ext_getElem
  ·simp
  ·intro i h1 h2
   simp
   exact (Nat.mod_eq_of_lt (h _ (List.getElem_mem _))).symm
 conv=>lhs;rw [this]
 exact .str _
theorem CX (hw:Rw P comp g σ w) {v:V} {X:Value} {ns:List Nat} (hr:Rs g β v X) (h:bytesIn σ v=some ns) :
  (∀ n∈ns,n<256)∧((X=.slice none 0 0∧ns=[])∨∃ b off cap,X=.slice (some ⟨b,off,none⟩) ns.length cap∧∀ j n,ns[j]?=some n→w.cell? ⟨b,off+j,none⟩=some (.int .u8 (.ofNat n))):=by
 cases v<;>try (simp [bytesIn] at h;done)
 ·simp [bytesIn] at h;subst h
  cases hr
  exact ⟨by simp,.inl ⟨rfl,rfl⟩⟩
 ·rename_i xs ex
  simp only [bytesIn] at h
  obtain ⟨h1,h2⟩:=yB h
  refine ⟨h2,.inr ?_⟩
  cases hr with
  |@list _ _ b o cap k vs hk hc he hpn hv hr =>
  have hlen:xs.length=ns.length:=by rw [h1];simp
  refine ⟨b,o,cap,by rw [hlen],fun j n hn=>?_⟩
  have hx:xs[j]?=some (V.int .u8 (.ofNat n)):=by rw [h1];simp [hn]
  have hk1:k=1:=by have:=hk _ (List.mem_of_getElem? hx);simp [V.cells] at this;omega
  subst hk1
  have a1:=hw.frozen _ _ _ (hv j _ 0 _ hx rfl)
  have a2:=hr j _ 0 _ hx rfl
  have e0:o+j*1+0=o+j:=by omega
  rw [e0] at a1
  rw [a1]
  generalize vs j 0=z at a2
  cases a2
  rfl
 ·rename_i id off len cap sz
  simp only [bytesIn] at h
  cases ht:vT len (getCells σ id) off with
  |none=>rw [ht] at h;cases h
  |some cs =>
  rw [ht] at h
  dsimp only at h
  obtain ⟨h1,h2⟩:=yB h
  refine ⟨h2,.inr ?_⟩
  cases hg:getCells σ id with
  |none=>rw [hg] at ht;cases ht
  |some ds =>
  rw [hg] at ht
  simp only [vT,rV] at ht
  obtain ⟨t1,t2⟩:=mX ht
  cases hr with
  |@hsl _ b n _ _ _ c' _ hρ hlc hcap hn =>
  obtain ⟨b',m,C,ty,r,k2,k3,k5,k4,k6,_⟩:=hw.cells hg
  obtain ⟨rfl,rfl⟩:=Prod.mk.inj (gy (r.symm.trans hρ))
  have hlen:len=ns.length:=by
   have:=congrArg List.length h1
   rw [t2] at this
   simp at this t1
   omega
  refine ⟨b',off,c',by rw [hlen],fun j n hn=>?_⟩
  have hx:cs[j]?=some (V.int .u8 (.ofNat n)):=by rw [h1];simp [hn]
  have hjl:j<len:=by rw [hlen];exact (iW.1 hn).1
  rw [t2,List.getElem?_take,if_pos hjl,List.getElem?_drop] at hx
  obtain ⟨z,hz,yK⟩:=k4 _ _ hx
  rw [rZ k2,hz]
  cases yK
  rfl
theorem U3 {d:Nat} {o:Oper} {x:Operand} {x':aF} {s t el:TypeId} (hs:P.underlying s=some (.slice el)) (he:P.underlying el=some (.int .u8)) (ht:P.underlying t=some .string) (hx:bQ x=some x') (ho:o.op=.convert s t x) :
  Sound P comp d (.toStr x') o:=by
 intro g β σ lo fr A w v lo' σ' h e
 have hr:=Rs.ev h.f hx
 simp only [aZ,oG] at e
 cases hb:bytesIn σ (x'.ev fr) with
 |none=>rw [hb] at e;cases e
 |some ns =>
 rw [hb] at e
 simp only [OR.ok.injEq] at e
 obtain ⟨rfl,rfl,rfl⟩:=e
 obtain ⟨h1,h2⟩:=CX h.w hr hb
 refine .pure h (x:=.string (strOf ns)) ?_ (.dP (ahm h1))
 have hrun:(convert s t (A.eval x)).run P w=.ok (.string (strOf ns)) w:=by
  rcases h2 with ⟨hX,rfl⟩|⟨b,off,cap,hX,hc⟩
  ·rw [hX]
   have:=run_convert_bytes_nil (P:=P) w s el hs he 0 0 t ht
   rw [this]
   rfl
  ·rw [hX]
   have:=run_convert_bytes_back (P:=P) w s t el ⟨b,off,none⟩ cap (ns.map UInt8.ofNat) hs he ht (fun j hj=>by
    have hj':j<ns.length:=by simpa using hj
    rw [lK,hc j ns[j] (fM hj')]
    have:=h1 ns[j] (List.getElem_mem _)
    simp [Nat.mod_eq_of_lt this])
   simp only [List.length_map] at this
   exact this
 simp only [execOp,ho,aA,hrun,Result.andThen,Sem.run_pure]
end
section
variable {P:Program} {comp:FuncId→Code→aH} {g g':G} {σ σ':H} {w w':World} {β:Nat→Option Nat} {lo lo':Lo} {fr:List V} {A:Act}
theorem MK {k:Nat}:∀ {xs:List V} {p:Nat} {c:V},(∀ x∈xs,x.cells.length=k)→(sU xs)[p]?=some c→∃ i j x,xs[i]?=some x∧x.cells[j]?=some c∧p=i*k+j
 |[],p,c,_,h=>by simp [sU] at h
 |x::xs,p,c,hk,h=>by
  have h0:=hk x (by simp)
  have:sU (x::xs)=x.cells++sU xs:=by cases x<;>rfl
  rw [this,List.getElem?_append] at h
  by_cases hp:p<x.cells.length
  ·rw [if_pos hp] at h
   exact ⟨0,p,x,rfl,h,by simp⟩
  ·rw [if_neg hp] at h
   obtain ⟨i,j,y,h1,h2,h3⟩:=MK (fun y hy=>hk y (eX _ hy)) h
   exact ⟨i+1,j,y,h1,h2,by rw [Nat.succ_mul];omega⟩
theorem Rj (sz n:Nat) {b off len cap:Nat} {cs:List V} (hl:cs.length=n*sz) (h:∀ j c,cs[j]?=some c→∃ z,w.cell? ⟨b,off+j,none⟩=some z∧Rv g c z) :
  ∃ C:List Value,(Builtin.firstCells sz n (.slice (some ⟨b,off,none⟩) len cap)).run P w=.ok C.toArray w∧kK g cs C:=by
 refine ⟨(List.range cs.length).map fun j=>(w.cell? ⟨b,off+j,none⟩).getD Go.undef,?_,by simp,fun i v z hv hz=>?_⟩
 ·refine run_firstCells_some w sz n ⟨b,off,none⟩ len cap _ (by simp [hl]) (fun j v hj=>?_)
  simp [List.getElem?_map] at hj
  obtain ⟨q,hq,rfl⟩:=hj
  have hq':=iW.1 hq
  obtain ⟨hlt,rfl⟩:=hq'
  simp at hlt
  obtain ⟨z,hz,_⟩:=h j _ (fM hlt)
  simp [lK,hz]
 ·have hlt:=(iW.1 hv).1
  obtain ⟨y,hy,hr⟩:=h i v hv
  simp [List.getElem?_map,hlt,hy] at hz
  subst hz
  exact hr
theorem ql (hw:Rw P comp g σ w) {v:V} {X:Value} {cs:List V} {sz n:Nat} (hr:Rs g β v X) (h:dM σ sz n v=some cs) :
  cs.length=n*sz∧∃ C:List Value,(Builtin.firstCells sz n X).run P w=.ok C.toArray w∧kK g cs C:=by
 cases v<;>try (simp [dM] at h;done)
 ·rename_i s
  simp only [dM] at h
  generalize hq:Nat.beq sz 1=q at h
  cases q
  ·cases h
  have:=aJ hq
  subst this
  simp only [cond_true] at h
  obtain ⟨bs,rfl,rfl⟩:=sS hr rfl
  obtain ⟨t1,t2⟩:=mX h
  simp [pU] at t1
  refine ⟨by rw [t2];simp [pU];omega,((bs.extract 0 n).data.map fun b=>Value.int .u8 b.toNat).toList,by simp [Builtin.firstCells];apply Array.ext';simp,?_⟩
  rw [t2]
  refine ⟨by simp [pU],fun i v z hv hz=>?_⟩
  simp [pU,List.getElem?_take] at hv
  simp [List.getElem?_take] at hz
  obtain ⟨hi,a,ha,rfl⟩:=hv
  rw [ha] at hz
  simp [hi] at hz
  subst hz
  exact .int _ _
 ·simp only [dM] at h
  generalize hq:Nat.beq n 0=q at h
  cases q
  ·cases h
  have:=aJ hq
  subst this
  simp at h
  subst h
  cases hr
  exact ⟨by simp,[],by simp [Builtin.firstCells],.nil _⟩
 ·rename_i xs ex
  simp only [dM] at h
  generalize hq:(AZ sz xs&&Nat.ble n xs.length)=q at h
  cases q
  ·cases h
  simp only [au] at hq
  have hle:=Nat.le_of_ble_eq_true hq.2
  simp only [cond_true] at h
  obtain ⟨t1,t2⟩:=mX h
  cases hr with
  |@list _ _ b o cap k vs hk hc he hpn hv hr =>
  have hks:n=0∨k=sz:=by
   cases xs with
   |nil=>left;simp at hle;exact hle
   |cons x xs =>
    right
    have a1:=hk x (by simp)
    have a2:=aJ hq.1
    omega
  have hl:cs.length=n*sz:=by rw [t2];simp;omega
  refine ⟨hl,Rj sz n hl (fun j c hj=>?_)⟩
  rw [t2,List.getElem?_take] at hj
  split at hj
  ·rename_i hjn
   rcases hks with rfl|rfl
   ·simp at hjn
   obtain ⟨i,j',x,h1,h2,h3⟩:=MK hk hj
   have a1:=hw.frozen _ _ _ (hv i x j' c h1 h2)
   exact ⟨_,by rw [h3,←Nat.add_assoc];exact a1,hr i x j' c h1 h2⟩
  ·cases hj
 ·rename_i id off len cap sz'
  simp only [dM] at h
  generalize hq:(Nat.beq sz sz'&&Nat.ble n len)=q at h
  cases q
  ·cases h
  simp only [au] at hq
  simp only [cond_true] at h
  have hle:=Nat.le_of_ble_eq_true hq.2
  cases hg:getCells σ id with
  |none=>rw [hg] at h;cases h
  |some ds =>
  rw [hg] at h
  simp only [vT,rV] at h
  obtain ⟨t1,t2⟩:=mX h
  cases hr with
  |@hsl _ b m _ _ _ c' _ hρ hlc hcap hn =>
  obtain ⟨b',m,C,ty,r,k2,k3,k5,k4,k6,_⟩:=hw.cells hg
  obtain ⟨rfl,rfl⟩:=Prod.mk.inj (gy (r.symm.trans hρ))
  have hl:cs.length=n*sz:=by rw [t2];simp at t1 ⊢;omega
  refine ⟨hl,Rj sz n hl (fun j c hj=>?_)⟩
  rw [t2,List.getElem?_take] at hj
  split at hj
  ·rw [List.getElem?_drop] at hj
   obtain ⟨z,hz,yK⟩:=k4 _ _ hj
   exact ⟨z,by rw [rZ k2];exact hz,yK⟩
  ·cases hj
end
section
variable {P:Program} {comp:FuncId→Code→aH} {g g':G} {σ σ':H} {w w':World} {β:Nat→Option Nat} {lo lo':Lo} {fr:List V} {A:Act}
theorem NI {v:V} {X:Value} {n:Nat} (hr:Rs g β v X) (h:gU v=some n):(Builtin.lenOf X).run P w=.ok n w:=by
 cases v<;>simp [gU] at h<;>subst h
 ·obtain ⟨bs,rfl,rfl⟩:=sS hr rfl
  simp [Builtin.lenOf]
 ·cases hr;simp [Builtin.lenOf]
 ·cases hr;simp [Builtin.lenOf]
 ·cases hr;simp [Builtin.lenOf]
theorem St.write (h:St P comp g β σ lo fr A w) {id off:Nat} {cs vs q:List V} {W:List Value} {b n:Nat} (hg:getCells σ id=some cs) (hρ:g.ρ id=some (b,n)) (hv:kK g vs W) (ho:dO vs=true) (hs:splice off cs vs=some q) :
  ∃ w',(storeCells ⟨b,off,none⟩ W).run P w=.ok () w'∧(∀ (v:V) (x:Value),Rs g β v x→∀ r,r=.ok (.value x) w'→nU P comp g β σ w v lo (σ.set id (.cells q)) r)∧(∀ r,r=.ok .skip w'→nU P comp g β σ w .undef lo (σ.set id (.cells q)) r):=by
 obtain ⟨b',m,C,ty,r,h2,h3,h5,h4,h6,hlive⟩:=h.w.cells hg
 obtain ⟨rfl,rfl⟩:=Prod.mk.inj (gy (r.symm.trans hρ))
 obtain ⟨k1,k2,k3⟩:=spliced (g:=g) (C:=C.toList) ⟨by simp [h3];omega,fun j x hx=>let ⟨z,hz,hr⟩:=h4 j x hx;⟨z,by simpa using hz,hr⟩⟩ hv hs
 have hone:=JU hv ho
 have hst:=run_storeCells_at (P:=P) b' off ty W 0 C w h2 (by simpa using k1) hone
 simp only [Nat.add_zero] at hst
 have hoth:∀ k,k≠b'→(w.setRow b' (C.toList.take off++W++C.toList.drop (off+W.length)).toArray).heap[k]?=w.heap[k]?:=fun k hk=>setRow_other w b' k _ hk
 have hlv:∀ k,Live g (σ.set id (.cells q)) k→Live g σ k:=by
  rintro k ⟨i,m',hi,hb'⟩
  rw [H.rQ] at hi
  by_cases e1:id=i
  ·subst e1;exact ⟨id,m',by simp [iY hg],hb'⟩
  ·simp [e1] at hi;exact ⟨i,m',hi,hb'⟩
 have hro:Ro P comp g (.cells q) b' m (w.setRow b' (C.toList.take off++W++C.toList.drop (off+W.length)).toArray) :=
  ⟨_,ty,setRow_heap w b' C _ ty (0,0) h2,by simp at k1 ⊢;omega,by omega,fun j x hx=>let ⟨z,hz,hr⟩:=k3 j x hx;⟨z,by simpa using hz,hr⟩⟩
 have hw':=h.w.put (by simp [iY hg]) r (by simp) hoth hro
 have hb':=h.b.same (.refl g) (fun k hl _=>hlv k hl) (fun _ _ hp _ o=>hp o) (fun t k e'=>hoth k (by intro e'';subst e'';exact (h.b.apart t k e').1 hlive))
 have aAV:Frm g σ (Cj β) w (w.setRow b' (C.toList.take off++W++C.toList.drop (off+W.length)).toArray):=⟨rfl,rfl,rfl,by simp,fun k _ hk _ _=>hoth k (by intro e';subst e';exact hk hlive)⟩
 exact ⟨_,hst,fun v x hvx r hr=>⟨x,_,g,.inl hr,.refl g,hvx,hw',hb',aAV,fun b hl _=>hlv b hl,fun _ _ h _=>h⟩,fun r hr=>⟨_,_,g,.inr ⟨hr,rfl⟩,.refl g,.dP (.undef _),hw',hb',aAV,fun b hl _=>hlv b hl,fun _ _ h _=>h⟩⟩
theorem aeD {v:V} {X:Value} {n:Nat} (sz:Nat) (hr:Rs g β v X) (h:gU v=some n):(Builtin.firstCells sz 0 X).run P w=.ok #[] w:=by
 cases v<;>simp [gU] at h<;>subst h
 ·obtain ⟨bs,rfl,rfl⟩:=sS hr rfl
  simp [Builtin.firstCells]
 ·cases hr;simp [Builtin.firstCells]
 ·cases hr;simp [Builtin.firstCells,loadCells,loadCellsFrom]
 ·cases hr;simp [Builtin.firstCells,loadCells,loadCellsFrom]
theorem YF {d:Nat} {o:Oper} {x y:Operand} {x' y':aF} {ats:Array TypeId} {t el:TypeId} {sz:Nat} (ht:ats[0]?=some t) (hu:P.underlying t=some (.slice el)) (hz:kM P el=some sz) (hx:bQ x=some x') (hy:bQ y=some y')
  (ho:o.op=.call { callee:=.builtin .copy,args:=#[x,y],argTypes:=ats }):Sound P comp d (.copy sz x' y') o:=by
 intro g β σ lo fr A w v lo' σ' h e
 have hrx:=Rs.ev h.f hx
 have hry:=Rs.ev h.f hy
 simp only [aZ,qF] at e
 generalize hvx:x'.ev fr=vx at e hrx
 generalize hvy:y'.ev fr=vy at e hry
 cases hn:gU vy with
 |none=>rw [hn] at e;cases e
 |some n =>
 rw [hn] at e;dsimp only at e
 cases hm:lenOf σ 0 vx with
 |none=>rw [hm] at e;cases e
 |some m =>
 rw [hm] at e;dsimp only at e
 have hmin:(bif Nat.ble n m then n else m)=Nat.min n m:=by
  cases hq:Nat.ble n m
  ·have:¬n≤m:=fun hle=>by rw [Nat.ble_eq_true_of_le hle] at hq;cases hq
   show m=min n m
   omega
  ·have:=Nat.le_of_ble_eq_true hq
   show n=min n m
   omega
 rw [hmin] at e
 have hlen:=NI (P:=P) (w:=w) hry hn
 generalize hX:A.eval x=X at hrx
 generalize hY:A.eval y=Y at hry hlen
 have hex:∀ (r:Result Value),(Builtin.copy_ ats o.type #[X,Y]).run P w=r→(execOp A.eval o).run P w=r.andThen fun v w=>.ok (.value v) w:=by
  intro r hr
  simp only [execOp,ho,resolve,invoke,builtin,aA,Sem.run_pure,Result.andThen]
  simp [hX,hY,hr]
 have zero:∀ (b:Option Addr) (c:Nat),X=.slice b m c→(bif Nat.beq (Nat.min n m) 0 then OR.ok (.int .i64 0) lo σ else .fail)=.ok v lo' σ'→nU P comp g β σ w v lo' σ' ((execOp A.eval o).run P w):=by
  intro b c hXb e
  generalize hq:Nat.beq (Nat.min n m) 0=q at e
  cases q
  ·cases e
  simp only [cond_true,OR.ok.injEq] at e
  obtain ⟨rfl,rfl,rfl⟩:=e
  have h0:=aJ hq
  have hf:=aeD (P:=P) (w:=w) sz hry hn
  refine .pure h (x:=.int .i64 0) ?_ (.dP (.int _ _))
  rw [hex (.ok (.int .i64 0) w)]
  ·rfl
  ·subst hXb
   cases b<;>simp [Builtin.copy_,ht,aA,run_underlying hu,hlen,h0,iV hz,hf,Result.andThen,goInt,storeCells]
 cases vx<;>try (simp [lenOf] at hm;done)
 ·simp [lenOf] at hm;subst hm
  cases hrx
  exact zero none 0 rfl e
 ·simp [lenOf] at hm;subst hm
  cases hrx
  exact zero _ _ rfl e
 ·rename_i id off len cap sz'
  simp [lenOf] at hm;subst hm
  simp only [wO] at e
  generalize hq:Nat.beq sz sz'=q at e
  cases q
  ·cases e
  simp only [cond_true] at e
  cases hs:dM σ sz (Nat.min n len) vy with
  |none=>rw [hs] at e;cases e
  |some new =>
  rw [hs] at e;dsimp only at e
  cases hg:getCells σ id with
  |none=>rw [hg] at e;cases e
  |some cs =>
  rw [hg] at e;dsimp only at e
  generalize hq2:dO new=q2 at e
  cases q2
  ·cases e
  simp only [cond_true] at e
  cases hp:splice off cs new with
  |none=>rw [hp] at e;cases e
  |some r =>
  rw [hp] at e
  simp only [OR.ok.injEq] at e
  obtain ⟨rfl,rfl,rfl⟩:=e
  obtain ⟨k1,C,k2,k3⟩:=ql (P:=P) h.w hry hs
  cases hrx with
  |@hsl _ b m' _ _ _ c' _ hρ hlc hcap hnn =>
  obtain ⟨w',s1,s2,_⟩:=h.write hg hρ k3 hq2 hp
  refine s2 _ (.int .i64 (Nat.min n len)) (.dP (.int _ _)) _ ?_
  rw [hex (.ok (.int .i64 (Nat.min n len)) w')]
  ·rfl
  ·simp [Builtin.copy_,ht,aA,run_underlying hu,hlen,iV hz,k2,s1,Result.andThen,goInt]
end
section
variable {P:Program} {comp:FuncId→Code→aH} {g g':G} {σ σ':H} {w w':World} {β:Nat→Option Nat} {lo lo':Lo} {fr:List V} {A:Act}
theorem JO {need c:Nat} (h:c<need):Builtin.nextslicecap need c≤2*need+1000:=by
 unfold Builtin.nextslicecap
 split
 ·omega
 ·split
  ·omega
  ·rw [growBy_four]
   repeat' split
   all_goals omega
theorem Gf {ats:Array TypeId} {t u ty e:TypeId} {i:TypeInfo} {z X Y:Value} {base:Option Addr} {sLen sCap n:Nat} {olds news:Array Value} {du:TypeDesc}
  (h0:ats[0]?=some t) (h1:ats[1]?=some u) (ht:P.underlying t=some (.slice e)) (hu:P.underlying u=some du) (Vq:∀ k,du≠.int k) (hi:P.info? e=some i) (hz:i.zero=some z)
  (hX:X=.slice base sLen sCap) (hn:(Builtin.lenOf Y).run P w=.ok n w) (ho:(Builtin.firstCells i.size sLen X).run P w.drew=.ok olds w.drew) (hnew:(Builtin.firstCells i.size n Y).run P w.drew=.ok news w.drew)
  (hg:sCap<sLen+n) (hm:sLen+n≤16777216) (hb:i.bytes≤65536) :
  (Builtin.append_ ats ty #[X,Y]).run P w=.ok (.slice (some ⟨w.heap.size,0,none⟩) (sLen+n) (grownCap w (sLen+n) sCap e)) (w.drew.alloc (.cells (olds++news++Builtin.zeroCells z.cells (grownCap w (sLen+n) sCap e-(sLen+n))) e)):=by
 subst hX
 have hint:(match du with|.int _=>true|_=>false)=false:=by
  cases du<;>first|rfl|exact absurd rfl (Vq _)
 have hn':¬(sLen+n≤sCap):=by omega
 have h63':¬(9223372036854775807<((sLen:Int)+(n:Int))):=by omega
 have h48:=JO hg
 have h48':¬(281474976710656<Builtin.nextslicecap (sLen+n) sCap*i.bytes):=by
  have:Builtin.nextslicecap (sLen+n) sCap*i.bytes≤33555432*65536:=Nat.mul_le_mul (by omega) hb
  omega
 simp [Builtin.append_,h0,h1,run_underlying ht,run_underlying hu,sizeOf,typeInfo,zeroValue,hi,hz,hn,hint,hn',h63',h48',Question.forced,ho,hnew,newRow,grownCap,Result.andThen]
theorem run_append_fits {ats:Array TypeId} {t u ty e:TypeId} {i:TypeInfo} {X Y:Value} {base:Option Addr} {sLen sCap n:Nat} {news:Array Value} {du:TypeDesc}
  (h0:ats[0]?=some t) (h1:ats[1]?=some u) (ht:P.underlying t=some (.slice e)) (hu:P.underlying u=some du) (Vq:∀ k,du≠.int k) (hi:P.info? e=some i)
  (hX:X=.slice base sLen sCap) (hn:(Builtin.lenOf Y).run P w=.ok n w) (hnew:(Builtin.firstCells i.size n Y).run P w=.ok news w)
  (hg:sLen+n≤sCap) (hs:∀ a,base=some a→(storeCells (a.add (sLen*i.size)) news.toList).run P w=.ok () w') (hs0:base=none→w'=w) :
  (Builtin.append_ ats ty #[X,Y]).run P w=.ok (.slice base (sLen+n) sCap) w':=by
 subst hX
 have hint:(match du with|.int _=>true|_=>false)=false:=by
  cases du<;>first|rfl|exact absurd rfl (Vq _)
 cases base with
 |none =>
  rw [hs0 rfl]
  simp [Builtin.append_,h0,h1,run_underlying ht,run_underlying hu,sizeOf,typeInfo,hi,hn,hint,hg,hnew,Result.andThen]
 |some a =>
  have hst:=hs a rfl
  simp [Builtin.append_,h0,h1,run_underlying ht,run_underlying hu,sizeOf,typeInfo,hi,hn,hint,hg,hnew,hst,Result.andThen]
end
section
variable {P:Program} {comp:FuncId→Code→aH} {g g':G} {σ σ':H} {w w':World} {β:Nat→Option Nat} {lo lo':Lo} {fr:List V} {A:Act}
theorem Live.yS {id b:Nat} (h:Live g (σ.del id) b):Live g σ b:=by
 obtain ⟨i,n,hi,hr⟩:=h
 rw [H.wC] at hi
 by_cases e:id=i
 ·simp [e] at hi
 ·simp [e] at hi;exact ⟨i,n,hi,hr⟩
theorem yQ (hw:Rw P comp g σ w) {id b n:Nat} (hi:(σ.get id).isSome=true) (hr:g.ρ id=some (b,n)):¬Live g (σ.del id) b:=by
 rintro ⟨i,m,h1,h2⟩
 rw [H.wC] at h1
 by_cases e:id=i
 ·simp [e] at h1
 ·simp [e] at h1
  exact e (hw.inj id i b n m hi h1 hr h2)
theorem St.del (h:St P comp g β σ lo fr A w) (id:Nat):St P comp g β (σ.del id) lo fr A w :=
 ⟨h.f,⟨h.b.boxes,fun t b e=>⟨fun hl=>(h.b.apart t b e).1 hl.yS,(h.b.apart t b e).2⟩,h.b.inj⟩,h.w.del id⟩
theorem nU.yS {id:Nat} {v:V} {r:Result Next} (h:nU P comp g β (σ.del id) w v lo' σ' r):nU P comp g β σ w v lo' σ' r:=by
 obtain ⟨x,w',g',hr,hle,hv,hw,hb,hf,hl,hp⟩:=h
 exact ⟨x,w',g',hr,hle,hv,hw,hb,⟨hf.os,hf.tape,hf.output,hf.size,fun k hk hn hb hp=>hf.block k hk (fun hl=>hn hl.yS) hb hp⟩,fun b h1 h2=>(hl b h1 h2).yS,fun b h1 h2 h3=>hp b h1 h2 (fun hl=>h3 hl.yS)⟩
theorem nU.grown (h:St P comp g β σ lo fr A w) {e:TypeId} {n cap sz:Nat} {cs:List V} {olds news:List Value} {z:Array Value} {r:Result Next} {w':World} (hz:z.size=sz) (hc:kK g cs (olds++news)) (hl:cs.length=n*sz) (hcap:n≤cap)
  (hw':w'=w.drew.alloc (.cells (olds.toArray++news.toArray++Builtin.zeroCells z (cap-n)) e)) (hr:r=.ok (.value (.slice (some ⟨w.heap.size,0,none⟩) n cap)) w') :
  nU P comp g β σ w (.hsl σ.next 0 n none sz) lo (σ.new (.cells cs)) r:=by
 have hsz:(olds.toArray++news.toArray++Builtin.zeroCells z (cap-n)).size=cap*sz:=by
  have:=hc.1
  simp at this
  simp [size_zeroCells,hz]
  rw [Nat.sub_mul]
  have:n*sz≤cap*sz:=Nat.mul_le_mul_right _ hcap
  omega
 have hle:=G.uo (g:=g) (w.heap.size,cap*sz) (h.w.fresh _ (bC _)).1
 refine nU.new h (gob:=.cells (olds.toArray++news.toArray++Builtin.zeroCells z (cap-n)) e) (n:=cap*sz) (w':=w') (by subst hw';exact ⟨rfl,rfl,rfl,rfl⟩) hr ?_ (.hsl (G.oq _ _ _) hcap (fun c hc=>by cases hc) (by simp))
 refine ⟨_,e,by rw [hw'];exact World.alloc_heap_new w.drew _,hsz,?_,fun j x hx=>?_⟩
 ·rw [hl];exact Nat.mul_le_mul_right _ hcap
 ·obtain ⟨y,hy,hyr⟩:=hc.get hx
  refine ⟨y,?_,hyr.mono hle⟩
  have hlt:=(iW.1 hy).1
  rw [Array.getElem?_append_left (by simpa using hlt)]
  simpa using hy
end
section
variable {P:Program} {comp:FuncId→Code→aH} {g g':G} {σ σ':H} {w w':World} {β:Nat→Option Nat} {lo lo':Lo} {fr:List V} {A:Act}
theorem Bj {e:TypeId} {s:Nat} (h:Lj P e=some s):∃ it Z,P.info? e=some it∧it.zero=some Z∧it.size=s∧s≠0∧it.bytes≤65536∧∃ z,mg P e=some z∧z.cells.length=s:=by
 unfold Lj at h
 cases hi:P.info? e with
 |none=>rw [hi] at h;cases h
 |some it =>
 rw [hi] at h
 cases hz:mg P e with
 |none=>rw [hz] at h;cases h
 |some z =>
 rw [hz] at h
 simp only [iJ,Option.bind_some] at h
 split at h
 ·cases h
 ·rename_i hq
  simp at hq h
  subst h
  obtain ⟨it',Z,h1,h2,_⟩:=IZ hz
  rw [hi] at h1;cases h1
  exact ⟨it,Z,rfl,h2,rfl,hq.1.1,hq.1.2,z,rfl,hq.2⟩
structure adA (P:Program) (w:World) (ats:Array TypeId) (t u e:TypeId) (i:TypeInfo) (Z:Value) (du:TypeDesc) (Y:Value) (n:Nat):Prop where
 h0:ats[0]?=some t
 h1:ats[1]?=some u
 ht:P.underlying t=some (.slice e)
 hu:P.underlying u=some du
 Vq:∀ k,du≠.int k
 hi:P.info? e=some i
 hz:i.zero=some Z
 hZ:Z.cells.size=i.size
 hb:i.bytes≤65536
 hn:(Builtin.lenOf Y).run P w=.ok n w
theorem DX {ats:Array TypeId} {t u e ty:TypeId} {i:TypeInfo} {Z X Y:Value} {du:TypeDesc} {n sLen sCap:Nat} {base:Option Addr} {old new:List V} {OL NW:List Value} {v:V} {r:Result Next}
  (h:St P comp g β σ lo fr A w) (K:adA P w ats t u e i Z du Y n) (hX:X=.slice base sLen sCap) (hg:sCap<sLen+n)
  (ho:(Builtin.firstCells i.size sLen X).run P w.drew=.ok OL.toArray w.drew) (hov:kK g old OL) (hol:old.length=sLen*i.size)
  (hnw:(Builtin.firstCells i.size n Y).run P w.drew=.ok NW.toArray w.drew) (hnv:kK g new NW) (hnl:new.length=n*i.size)
  (e1:jA σ (sLen+n) i.size (some old) new=some (v,σ')) (hr:r=((Builtin.append_ ats ty #[X,Y]).run P w).andThen fun v w=>.ok (.value v) w):nU P comp g β σ w v lo σ' r:=by
 simp only [jA] at e1
 generalize hq:Nat.ble (sLen+n) 16777216=q at e1
 cases q
 ·cases e1
 simp only [cond_true,aC,Prod.mk.injEq] at e1
 obtain ⟨rfl,rfl⟩:=e1
 have hm:=Nat.le_of_ble_eq_true hq
 have hrun:=Gf (P:=P) (ty:=ty) K.h0 K.h1 K.ht K.hu K.Vq K.hi K.hz hX K.hn ho hnw hg hm K.hb
 rw [hrun] at hr
 exact nU.grown h K.hZ (hov.append hnv) (by simp [hol,hnl,Nat.add_mul]) (grownCap_ge w (sLen+n) sCap e) rfl hr
end
section
variable {P:Program} {comp:FuncId→Code→aH} {g g':G} {σ σ':H} {w w':World} {β:Nat→Option Nat} {lo lo':Lo} {fr:List V} {A:Act}
theorem Xn {v:V} {X:Value} (hr:Rs g β v X) (h:jg v=true):∃ base l c,X=.slice base l c∧l≤c:=by
 cases v<;>try (cases h;done)
 ·cases hr;exact ⟨_,_,_,rfl,bC _⟩
 ·cases hr with
  |list k vs hk hc he _ hv hr=>exact ⟨_,_,_,rfl,hc⟩
 ·cases hr with
  |hsl h hl hc hn=>exact ⟨_,_,_,rfl,hl⟩
theorem Rw.drew (h:Rw P comp g σ w):Rw P comp g σ w.drew:=h.same (bC _) (fun _ _=>rfl)
theorem axd {ats:Array TypeId} {t u e ty_:TypeId} {i:TypeInfo} {Z X Y:Value} {du:TypeDesc} {n len c' id b m:Nat} {old new cs:List V} {NW:List Value} {v:V} {r:Result Next}
  (h:St P comp g β σ lo fr A w) (K:adA P w ats t u e i Z du Y n) (hg:getCells σ id=some cs) (hρ:g.ρ id=some (b,m)) (hX:X=.slice (some ⟨b,0,none⟩) len c') (hle:len+n≤c') (hmn:c'*i.size≤m)
  (ho:old=cs.take (len*i.size)) (hol:len*i.size≤cs.length) (hnw:(Builtin.firstCells i.size n Y).run P w=.ok NW.toArray w) (hnv:kK g new NW) (hnl:new.length=n*i.size) (hok:dO new=true)
  (e1:jA (σ.del id) (len+n) i.size (some old) new=some (v,σ')) (hr:r=((Builtin.append_ ats ty_ #[X,Y]).run P w).andThen fun v w=>.ok (.value v) w):nU P comp g β σ w v lo σ' r:=by
 simp only [jA] at e1
 generalize hq:Nat.ble (len+n) 16777216=q at e1
 cases q
 ·cases e1
 simp only [cond_true,aC,Prod.mk.injEq] at e1
 obtain ⟨rfl,rfl⟩:=e1
 obtain ⟨b',m',C,ty,r',h2,h3,h5,h4,h6,hlive⟩:=h.w.cells hg
 obtain ⟨rfl,rfl⟩:=Prod.mk.inj (gy (r'.symm.trans hρ))
 have hsome:(σ.get id).isSome=true:=by simp [iY hg]
 have hnd:=yQ h.w hsome r'
 have hNW:NW.length=n*i.size:=by rw [←hnv.1];exact hnl
 have hone:=JU hnv hok
 have hfit:len*i.size+NW.length≤C.size:=by
  rw [hNW,←Nat.add_mul,h3]
  exact Nat.le_trans (Nat.mul_le_mul_right _ hle) hmn
 have hst:=run_storeCells_at (P:=P) b' (len*i.size) ty NW 0 C w h2 (by simpa using hfit) hone
 simp only [Nat.add_zero] at hst
 have hoth:∀ k,k≠b'→(w.setRow b' (C.toList.take (len*i.size)++NW++C.toList.drop (len*i.size+NW.length)).toArray).heap[k]?=w.heap[k]?:=fun k hk=>setRow_other w b' k _ hk
 have hrun:=run_append_fits (P:=P) (ty:=ty_) (w':=w.setRow b' (C.toList.take (len*i.size)++NW++C.toList.drop (len*i.size+NW.length)).toArray) (base:=some ⟨b',0,none⟩) (X:=X) K.h0 K.h1 K.ht K.hu K.Vq K.hi hX K.hn hnw hle (fun a ha=>by cases ha;rw [lK];simpa using hst) (fun e=>by cases e)
 rw [hrun] at hr
 have hw1:=(h.w.del id).other hnd h6 (by simp) hoth
 have hle':=G.uo (g:=g) (b',m') (h.w.fresh _ (bC _)).1
 have hro:Ro P comp (g.bind σ.next (b',m')) (.cells (old++new)) b' m' (w.setRow b' (C.toList.take (len*i.size)++NW++C.toList.drop (len*i.size+NW.length)).toArray):=by
  refine ⟨_,ty,setRow_heap w b' C _ ty (0,0) h2,by simp;omega,?_,fun j x hx=>?_⟩
  ·rw [ho];simp [hnl]
   have:len*i.size+n*i.size≤c'*i.size:=by rw [←Nat.add_mul];exact Nat.mul_le_mul_right _ hle
   omega
  ·rw [List.getElem?_append] at hx
   have aIR:old.length=len*i.size:=by rw [ho];simp;omega
   rw [aIR] at hx
   have hCl:len*i.size≤C.size:=by omega
   split at hx
   ·rename_i hj
    rw [ho,List.getElem?_take,if_pos hj] at hx
    obtain ⟨z,hz,yK⟩:=h4 j x hx
    refine ⟨z,?_,yK.mono hle'⟩
    simp only [List.getElem?_toArray,List.append_assoc]
    rw [List.getElem?_append_left (by simp;omega),List.getElem?_take,if_pos hj]
    simpa using hz
   ·rename_i hj
    obtain ⟨z,hz,yK⟩:=hnv.get hx
    refine ⟨z,?_,yK.mono hle'⟩
    have hlt:=(iW.1 hz).1
    simp only [List.getElem?_toArray,List.append_assoc]
    rw [List.getElem?_append_right (by simp;omega),List.getElem?_append_left (by simp;omega)]
    rw [←hz]
    congr 1
    simp
    omega
 have hw2:=hw1.add (b:=b') (n:=m') hnd h6 hro
 have hlv:∀ k,Live (g.bind σ.next (b',m')) ((σ.del id).new (.cells (old++new))) k→Live g σ k:=by
  rintro k ⟨i',m2,hi,hk⟩
  by_cases e:i'=σ.next
  ·subst e;simp at hk;rw [←hk.1];exact hlive
  ·rw [G.kL _ e] at hk
   rw [H.qw] at hi
   simp [Ne.symm e] at hi
   exact Live.yS ⟨i',m2,hi,hk⟩
 refine ⟨_,_,_,.inl hr,hle',.dP ?_,hw2,h.b.same hle' (fun k hl _=>hlv k hl) (fun k _ hp _ o=>hp o) (fun t k e'=>hoth k (by intro e'';subst e'';exact (h.b.apart t k e').1 hlive)),⟨rfl,rfl,rfl,by simp,fun k _ hk _ _=>hoth k (by intro e';subst e';exact hk hlive)⟩,fun k hl _=>hlv k hl,fun k _ hp _ o=>hp o⟩
 exact .hsl (G.oq _ _ _) hle (fun c hc=>by cases hc) (by simpa using hmn)
theorem axe {ats:Array TypeId} {t u e ty:TypeId} {i:TypeInfo} {Z X Y:Value} {du:TypeDesc} {n:Nat} {new:List V} {vx vy v:V} {r:Result Next}
  (h:St P comp g β σ lo fr A w) (K:adA P w ats t u e i Z du Y n) (hX:Rs g β vx X) (hY:Rs g β vy Y) (hn:gU vy=some n) (hs:dM σ i.size n vy=some new) (hok:dO new=true)
  (e1:wM σ i.size vx n new=some (v,σ')) (hr:r=((Builtin.append_ ats ty #[X,Y]).run P w).andThen fun v w=>.ok (.value v) w):nU P comp g β σ w v lo σ' r:=by
 obtain ⟨hnl,NW,hnw,hnv⟩:=ql (P:=P) h.w hY hs
 obtain ⟨_,NW',anZ,anY⟩:=ql (P:=P) h.w.drew hY hs
 unfold wM at e1
 generalize hq:Nat.beq n 0=q at e1
 cases q
 ·simp only [cond_false] at e1
  cases vx<;>try (cases e1;done)
  ·cases hX
   dsimp only at e1
   refine DX (sLen:=0) (sCap:=0) h K rfl ?_ (OL:=[]) (old:=[]) (by simp [Builtin.firstCells]) (.nil _) (by simp) anZ anY hnl (by simpa using e1) hr
   have:n≠0:=by intro e;subst e;cases hq
   omega
  ·rename_i xs ex
   dsimp only at e1
   cases ex
   ·cases e1
   simp only [cond_true] at e1
   cases ho:dM σ i.size xs.length (.list xs true) with
   |none=>rw [ho] at e1;cases e1
   |some old =>
   rw [ho] at e1
   obtain ⟨k1,OL,k2,k3⟩:=ql (P:=P) h.w.drew hX ho
   have hnz:n≠0:=by intro e;subst e;cases hq
   cases hX with
   |@list _ _ b o cap k vs hk hc he hpn hv hrr =>
   have:=he rfl
   subst this
   exact DX h K rfl (by omega) k2 k3 k1 anZ anY hnl e1 hr
  ·rename_i id off len cap sz'
   dsimp only at e1
   have hnz:n≠0:=by intro e;subst e;cases hq
   generalize hq2:Nat.beq i.size sz'=q2 at e1
   cases q2
   ·cases e1
   have:=aJ hq2
   subst this
   simp only [cond_true] at e1
   have hXr:Rv g (.hsl id off len cap i.size) X:=hX
   cases hX with
   |@hsl _ b m _ _ _ c' _ hρ hlc hcap hmn =>
   cases cap with
   |some c =>
    have:=hcap c rfl
    subst this
    simp only [zO] at e1
    generalize hq3:Nat.ble (len+n) c'=q3 at e1
    cases q3
    ·simp only [cond_false] at e1
     cases ho:dM σ i.size len (.hsl id off len (some c') i.size) with
     |none=>rw [ho] at e1;cases e1
     |some old =>
     rw [ho] at e1
     obtain ⟨k1,OL,k2,k3⟩:=ql (β:=β) (P:=P) h.w.drew (.dP hXr) ho
     have:¬len+n≤c':=fun hle=>by rw [Nat.ble_eq_true_of_le hle] at hq3;cases hq3
     exact DX h K rfl (by omega) k2 k3 k1 anZ anY hnl e1 hr
    ·simp only [cond_true,Y7] at e1
     cases hg:getCells σ id with
     |none=>rw [hg] at e1;cases e1
     |some cs =>
     rw [hg] at e1;dsimp only at e1
     cases hp:splice (off+len*i.size) cs new with
     |none=>rw [hp] at e1;cases e1
     |some q =>
     rw [hp] at e1
     simp only [aC,Prod.mk.injEq] at e1
     obtain ⟨rfl,rfl⟩:=e1
     obtain ⟨w',s1,s2,_⟩:=h.write hg hρ hnv hok hp
     have hle:=Nat.le_of_ble_eq_true hq3
     have hrun:=run_append_fits (P:=P) (ty:=ty) (w':=w') (base:=some ⟨b,off,none⟩) (X:=.slice (some ⟨b,off,none⟩) len c') K.h0 K.h1 K.ht K.hu K.Vq K.hi rfl K.hn hnw hle (fun a ha=>by cases ha;rw [lK];simpa using s1) (fun e=>by cases e)
     rw [hrun] at hr
     exact s2 _ _ (.dP (.hsl hρ hle (fun c hc=>by cases hc;rfl) hmn)) _ hr
   |none =>
    simp only [zO] at e1
    generalize hq3:Nat.beq off 0=q3 at e1
    cases q3
    ·cases e1
    have:=aJ hq3
    subst this
    simp only [cond_true] at e1
    cases ho:dM σ i.size len (.hsl id 0 len none i.size) with
    |none=>rw [ho] at e1;cases e1
    |some old =>
    rw [ho] at e1
    obtain ⟨k1,OL,k2,k3⟩:=ql (β:=β) (P:=P) h.w.drew (.dP hXr) ho
    by_cases hgr:c'<len+n
    ·exact (DX (h.del id) K rfl hgr k2 k3 k1 anZ anY hnl e1 hr).yS
    ·have hle:len+n≤c':=by omega
     cases hg:getCells σ id with
     |none=>simp [dM,hg,vT] at ho
     |some cs =>
     have aru:old=cs.take (len*i.size)∧len*i.size≤cs.length:=by
      simp only [dM,hg,vT,rV,List.drop_zero] at ho
      rw [VR,Nat.ble_eq_true_of_le (bC len)] at ho
      simp only [Bool.and_self,cond_true] at ho
      obtain ⟨t1,t2⟩:=mX ho
      exact ⟨t2,t1⟩
     exact axd h K hg hρ rfl hle (by simpa using hmn) aru.1 aru.2 hnw hnv hnl hok e1 hr
 ·have h0:=aJ hq
  subst h0
  simp only [cond_true] at e1
  generalize hq2:jg vx=q2 at e1
  cases q2
  ·cases e1
  simp only [cond_true,aC,Prod.mk.injEq] at e1
  obtain ⟨rfl,rfl⟩:=e1
  obtain ⟨base,l,c,rfl,hlc⟩:=Xn hX hq2
  have hf:=aeD (P:=P) (w:=w) i.size hY hn
  have hrun:=run_append_fits (P:=P) (ty:=ty) (w':=w) (base:=base) (X:=.slice base l c) K.h0 K.h1 K.ht K.hu K.Vq K.hi rfl K.hn hf (by omega) (fun a _=>by simp [storeCells]) (fun _=>rfl)
  rw [hrun] at hr
  exact .pure h hr hX
end
section
variable {P:Program} {comp:FuncId→Code→aH} {g g':G} {σ σ':H} {w w':World} {β:Nat→Option Nat} {lo lo':Lo} {fr:List V} {A:Act}
theorem yX {d:Nat} {o:Oper} {x y:Operand} {x' y':aF} {ats:Array TypeId} {t u e:TypeId} {du:TypeDesc} {s:Nat} (h0:ats[0]?=some t) (h1:ats[1]?=some u) (ht:P.underlying t=some (.slice e)) (hu:P.underlying u=some du)
  (Vq:∀ k,du≠.int k) (hs:Lj P e=some s) (hx:bQ x=some x') (hy:bQ y=some y') (ho:o.op=.call { callee:=.builtin .append,args:=#[x,y],argTypes:=ats }):Sound P comp d (.append s x' y') o:=by
 intro g β σ lo fr A w v lo' σ' h e1
 obtain ⟨it,Z,k1,k2,rfl,k4,k5,z,k6,k7⟩:=Bj hs
 obtain ⟨it',Z',q1,q2,q3⟩:=kY (g:=g) k6
 rw [k1] at q1;cases q1
 rw [k2] at q2;cases q2
 have hZ:Z.cells.size=it.size:=by have:=q3.1;simp at this;omega
 have hrx:=Rs.ev h.f hx
 have hry:=Rs.ev h.f hy
 simp only [aZ,aU] at e1
 cases hn:gU (y'.ev fr) with
 |none=>rw [hn] at e1;cases e1
 |some n =>
 rw [hn] at e1;dsimp only at e1
 cases hsrc:dM σ it.size n (y'.ev fr) with
 |none=>rw [hsrc] at e1;cases e1
 |some new =>
 rw [hsrc] at e1;dsimp only at e1
 generalize hq:dO new=q at e1
 cases q
 ·cases e1
 simp only [cond_true] at e1
 cases ha:wM σ it.size (x'.ev fr) n new with
 |none=>rw [ha] at e1;cases e1
 |some p =>
 obtain ⟨v2,σ2⟩:=p
 rw [ha] at e1
 simp only [ORp,OR.ok.injEq] at e1
 obtain ⟨rfl,rfl,rfl⟩:=e1
 refine axe (ty:=o.type) h ⟨h0,h1,ht,hu,Vq,k1,k2,hZ,k5,NI hry hn⟩ hrx hry hn hsrc hq ha ?_
 simp only [execOp,ho,resolve,invoke,builtin,aA,Sem.run_pure,Result.andThen]
 simp
end
section
variable {P:Program} {comp:FuncId→Code→aH} {g g':G} {σ σ':H} {w w':World} {β:Nat→Option Nat} {lo lo':Lo} {fr:List V} {A:Act}
def KeyTy (P:Program) (kt:TypeId) (kc:Nat):Prop:=match kc with
 |0=>∃ k,P.underlying kt=some (.int k)
 |1=>P.underlying kt=some .string
 |2=>∃ el sz,P.underlying kt=some (.pointer el)∧(P.info? el).map (·.size)=some sz∧sz≠0
 |3=>P.underlying kt=some .bool
 |_=>False
theorem Zd {kt:TypeId} {kc:Nat} (h:aaA P kt=some kc):KeyTy P kt kc:=by
 unfold aaA at h
 cases hu:P.underlying kt with
 |none=>simp [hu] at h
 |some d =>
  rw [hu] at h
  cases d<;>simp at h
  ·subst h;exact hu
  ·subst h;exact ⟨_,hu⟩
  ·subst h;exact hu
  ·rename_i e
   cases hs:kM P e with
   |none=>simp [hs] at h
   |some n =>
    simp [hs] at h
    obtain ⟨h1,rfl⟩:=h
    exact ⟨e,n,hu,hs,h1⟩
theorem run_checkKey {kt:TypeId} {kc:Nat} (hk:KeyTy P kt kc) (em:Bool) {v:V} {K:Value} (hr:Rs g β v K) (hv:iC kc v=true):(Instr.checkKey em 10000 kt K).run P w=.ok () w:=by
 have unf:Instr.checkKey em 10000 kt K=Instr.checkKey em (9999+1) kt K:=rfl
 rw [unf,Instr.checkKey]
 unfold KeyTy at hk
 split at hk
 ·obtain ⟨k,hk⟩:=hk
  rw [aA,run_underlying hk];rfl
 ·rw [aA,run_underlying hk];rfl
 ·obtain ⟨el,sz,hk,_⟩:=hk
  rw [aA,run_underlying hk];rfl
 ·rw [aA,run_underlying hk];rfl
 ·exact hk.elim
theorem QU {t:TypeId} {a b:Option Addr} {q:Bool} (h:zM P t (.pointer a) (.pointer b) w q):(Op.equal t (.pointer a) (.pointer b)).run P w=.ok q w:=by
 have h:=h .eql (.inl rfl)
 have:binOp .eql t (.pointer a) (.pointer b)=(do pure (.bool (←Op.equal t (.pointer a) (.pointer b)))):=by
  unfold binOp
  simp
 rw [this,aA] at h
 cases hr:(Op.equal t (.pointer a) (.pointer b)).run P w with
 |ok r w1 =>
  rw [hr] at h
  simp [Result.andThen] at h
  rw [h.1,h.2]
 |halt x w1=>rw [hr] at h;simp [Result.andThen] at h
theorem aep (hw:Rw P comp g σ w) {i o:Nat} {vy:V} {x y:Value} {b:Bool} (hx:Rs g β (.dF i o) x) (hy:Rv g vy y) (e:jB σ (.dF i o) vy=some b):b=true↔x=y:=by
 cases hx with
 |dF _ hr1 =>
 cases vy with
 |nilPtr=>cases hy;simp [jB] at e;subst e;simp
 |dF j p =>
  simp only [jB] at e
  split at e<;>try cases e
  rename_i cs hcs
  split at e<;>try cases e
  rename_i ds hds
  generalize hq:(Nat.blt o cs.length&&Nat.blt p ds.length)=q at e
  cases q
  ·simp at e
  simp at e
  cases hy with
  |dF _ hr2 =>
  rw [←e]
  simp only [au,Nat.beq_eq]
  constructor
  ·rintro ⟨rfl,rfl⟩
   rw [hr1] at hr2;cases hr2;rfl
  ·intro h'
   cases h'
   exact ⟨hw.inj i j _ _ _ (by simp [iY hcs]) (by simp [iY hds]) hr1 hr2,rfl⟩
 |_=>simp [jB] at e
theorem O6 {kt:TypeId} {kc:Nat} (hk:KeyTy P kt kc) (hw:Rw P comp g σ w) {v v':V} {K K':Value} {b:Bool} (hr:Rs g β v K) (hv:iC kc v=true) (hr':Rv g v' K') (e:eqV σ v v'=some b) :
  (b=true↔K=K')∧∃ kind,P.underlying kt=some kind∧((kc≠2∧Instr.sameNow kind K K'=some b)∨(kc=2∧Instr.sameNow kind K K'=none∧(Op.equal kt K K').run P w=.ok b w)):=by
 cases v<;>simp [iC] at hv
 ·subst hv
  rename_i q
  cases v'<;>simp [eqV,dK] at e
  rename_i q'
  cases hr;cases hr'
  refine ⟨by subst e;cases q<;>cases q'<;>simp,_,hk,.inl ⟨by simp,?_⟩⟩
  subst e
  cases q<;>cases q'<;>rfl
 ·subst hv
  rename_i k a
  obtain ⟨k0,hk⟩:=hk
  cases v'<;>simp [eqV,dZ] at e
  rename_i k' a'
  cases hr;cases hr'
  by_cases hkk:k=k'
  ·subst hkk
   simp [kP,qW] at e
   refine ⟨by subst e;simp,_,hk,.inl ⟨by simp,?_⟩⟩
   simp [Instr.sameNow,e]
  ·simp [kP,hkk] at e
 ·subst hv
  rename_i s
  cases v'<;>simp [eqV,dZ] at e
  rename_i s'
  cases hr
  cases hr'
  rename_i bs bs'
  rw [pJ,Cm] at e
  have aAY:∀ x y:ByteArray,(x==y)=true↔x=y:=by
   intro x y
   cases x;cases y
   constructor
   ·intro h
    rename_i a b
    have:(a==b)=true:=h
    rw [beq_iff_eq] at this
    rw [this]
   ·intro h
    cases h
    rename_i a
    show (a==a)=true
    simp
  have hbs:(bs.data.toList==bs'.data.toList)=(bs==bs'):=by
   rw [Bool.eq_iff_iff,aAY]
   simp only [beq_iff_eq]
   constructor
   ·intro h;exact ByteArray.ext (Array.toList_inj.1 h)
   ·intro h;rw [h]
  refine ⟨by rw [←e,hbs];rw [aAY];simp,_,hk,.inl ⟨by simp,?_⟩⟩
  simp [Instr.sameNow,←e,hbs]
 ·subst hv
  rename_i i o
  obtain ⟨el,sz,hk,hz,hn⟩:=hk
  simp only [eqV] at e
  have h1:=aep hw hr hr' e
  have h2:=QT hk hz hn hw hr (Rs.dP (β:=β) hr') e
  refine ⟨h1,_,hk,.inr ⟨rfl,?_,?_⟩⟩
  ·cases hr;cases v'<;>simp [jB] at e<;>cases hr'<;>rfl
  ·have hp:∃ a c,K=.pointer a∧K'=.pointer c:=by
    cases hr;cases v'<;>simp [jB] at e<;>cases hr'<;>exact ⟨_,_,rfl,rfl⟩
   obtain ⟨a,c,rfl,rfl⟩:=hp
   exact QU h2
def Oe (g:G) (ents:List MapEntry) (i0:Nat) (K:Value):Option (Nat×V)→Option (Nat×Value)→Prop
 |none,r=>r=none
 |some (i,v),r=>∃ e,i0≤i∧ents[i-i0]?=some e∧r=some (i,e.val)∧Rv g v e.val∧e.key=K
theorem aeC {kt:TypeId} {kc:Nat} {kind:TypeDesc} (hu:P.underlying kt=some kind) (hk:KeyTy P kt kc) (hk2:kc≠2) (hw:Rw P comp g σ w) {v:V} {K:Value} (hr:Rs g β v K) (hv:iC kc v=true) :
  ∀ (es:List (V×V)) (ents:List MapEntry) (i0:Nat) (r:Option (Nat×V)),es.length=ents.length→(∀ (i:Nat) k x,es[i]?=some (k,x)→∃ e,ents[i]?=some e∧Rv g k e.key∧Rv g x e.val) →
   oV σ v es i0=some r→∃ R,Instr.findNow kind K ents i0=some R∧Oe g ents i0 K r R:=by
 intro es
 induction es with
 |nil =>
  intro ents i0 r hl _ e
  have:ents=[]:=by cases ents with|nil=>rfl|cons _ _=>simp at hl
  subst this
  simp [oV] at e;subst e
  exact ⟨none,rfl,rfl⟩
 |cons p es ih =>
  obtain ⟨k,x⟩:=p
  intro ents i0 r hl he e
  cases ents with
  |nil=>simp at hl
  |cons e0 ents =>
  obtain ⟨e1,h1,h2,h3⟩:=he 0 k x rfl
  simp at h1;subst h1
  simp only [oV] at e
  cases hq:eqV σ v k with
  |none=>rw [hq] at e;cases e
  |some b =>
  rw [hq] at e
  obtain ⟨hb,kind',hu',hcase⟩:=O6 hk hw hr hv h2 hq
  rw [hu] at hu';cases hu'
  rcases hcase with ⟨_,hs⟩|⟨h0,_⟩
  ·cases b
   ·simp only [cond_false] at e
    obtain ⟨R,hR,hf⟩:=ih ents (i0+1) r (by simpa using hl) (fun i k x hx=>by simpa using he (i+1) k x (by simpa using hx)) e
    refine ⟨R,by simp only [Instr.findNow,hs];exact hR,?_⟩
    cases r with
    |none=>exact hf
    |some q =>
     obtain ⟨i,v'⟩:=q
     obtain ⟨e2,g1,g2,g3,g4⟩:=hf
     refine ⟨e2,by omega,?_,g3,g4⟩
     have:i-i0=(i-(i0+1))+1:=by omega
     rw [this];simpa using g2
   ·simp at e
    subst e
    exact ⟨some (i0,e0.val),by simp only [Instr.findNow,hs],e0,bC _,by simp,rfl,h3,(hb.1 rfl).symm⟩
  ·exact absurd h0 hk2
theorem aeB {kt:TypeId} (hk:KeyTy P kt 2) (hw:Rw P comp g σ w) {v:V} {K:Value} (hr:Rs g β v K) (hv:iC 2 v=true) :
  ∀ (es:List (V×V)) (ents:List MapEntry) (i0:Nat) (r:Option (Nat×V)),es.length=ents.length→(∀ (i:Nat) k x,es[i]?=some (k,x)→∃ e,ents[i]?=some e∧Rv g k e.key∧Rv g x e.val) →
   oV σ v es i0=some r→∃ R,(Instr.findAsking kt K ents i0).run P w=.ok R w∧Oe g ents i0 K r R:=by
 intro es
 induction es with
 |nil =>
  intro ents i0 r hl _ e
  have:ents=[]:=by cases ents with|nil=>rfl|cons _ _=>simp at hl
  subst this
  simp [oV] at e;subst e
  exact ⟨none,by simp [Instr.findAsking],rfl⟩
 |cons p es ih =>
  obtain ⟨k,x⟩:=p
  intro ents i0 r hl he e
  cases ents with
  |nil=>simp at hl
  |cons e0 ents =>
  obtain ⟨e1,h1,h2,h3⟩:=he 0 k x rfl
  simp at h1;subst h1
  simp only [oV] at e
  cases hq:eqV σ v k with
  |none=>rw [hq] at e;cases e
  |some b =>
  rw [hq] at e
  obtain ⟨hb,kind',hu',hcase⟩:=O6 hk hw hr hv h2 hq
  rcases hcase with ⟨h0,_⟩|⟨_,_,hs⟩
  ·exact absurd rfl h0
  ·cases b
   ·simp only [cond_false] at e
    obtain ⟨R,hR,hf⟩:=ih ents (i0+1) r (by simpa using hl) (fun i k x hx=>by simpa using he (i+1) k x (by simpa using hx)) e
    refine ⟨R,by simp only [Instr.findAsking,aA,hs,Result.andThen];simpa using hR,?_⟩
    cases r with
    |none=>exact hf
    |some q =>
     obtain ⟨i,v'⟩:=q
     obtain ⟨e2,g1,g2,g3,g4⟩:=hf
     refine ⟨e2,by omega,?_,g3,g4⟩
     have:i-i0=(i-(i0+1))+1:=by omega
     rw [this];simpa using g2
   ·simp at e
    subst e
    exact ⟨some (i0,e0.val),by simp [Instr.findAsking,aA,hs,Result.andThen],e0,bC _,by simp,rfl,h3,(hb.1 rfl).symm⟩
theorem Rh {kt:TypeId} {kc:Nat} (hk:KeyTy P kt kc) (hw:Rw P comp g σ w) {v:V} {K:Value} (hr:Rs g β v K) (hv:iC kc v=true) (es:List (V×V)) (ents:List MapEntry) (r:Option (Nat×V)) (hl:es.length=ents.length)
  (he:∀ (i:Nat) k x,es[i]?=some (k,x)→∃ e,ents[i]?=some e∧Rv g k e.key∧Rv g x e.val) (e:oV σ v es 0=some r):∃ R,(Instr.findKey kt K ents).run P w=.ok R w∧Oe g ents 0 K r R:=by
 have hkind:∃ kind,P.underlying kt=some kind:=by
  unfold KeyTy at hk
  split at hk
  ·exact ⟨_,hk.choose_spec⟩
  ·exact ⟨_,hk⟩
  ·obtain ⟨el,sz,hk,_⟩:=hk;exact ⟨_,hk⟩
  ·exact ⟨_,hk⟩
  ·exact hk.elim
 obtain ⟨kind,hu⟩:=hkind
 by_cases h2:kc=2
 ·subst h2
  cases es with
  |nil =>
   have:ents=[]:=by cases ents with|nil=>rfl|cons _ _=>simp at hl
   subst this
   simp [oV] at e;subst e
   exact ⟨none,by simp [Instr.findKey,aA,run_underlying hu,Instr.findNow,Result.andThen],rfl⟩
  |cons p es =>
   obtain ⟨R,h3,h4⟩:=aeB hk hw hr hv (p::es) ents 0 r hl he e
   refine ⟨R,?_,h4⟩
   cases ents with
   |nil=>simp at hl
   |cons e0 ents =>
   obtain ⟨k,x⟩:=p
   obtain ⟨e1,g1,g2,g3⟩:=he 0 k x rfl
   simp at g1;subst g1
   simp only [oV] at e
   cases hq:eqV σ v k with
   |none=>rw [hq] at e;cases e
   |some b =>
   obtain ⟨_,kind',hu',hcase⟩:=O6 hk hw hr hv g2 hq
   rw [hu] at hu';cases hu'
   rcases hcase with ⟨h0,_⟩|⟨_,hs,_⟩
   ·exact absurd rfl h0
   ·simp only [Instr.findKey,aA,run_underlying hu,Result.andThen,Instr.findNow,hs]
    exact h3
 ·obtain ⟨R,h3,h4⟩:=aeC hu hk h2 hw hr hv es ents 0 r hl he e
  exact ⟨R,by simp [Instr.findKey,aA,run_underlying hu,h3,Result.andThen],h4⟩
end
section
variable {P:Program} {comp:FuncId→Code→aH} {g g':G} {σ σ':H} {w w':World} {β:Nat→Option Nat} {lo lo':Lo} {fr:List V} {A:Act}
theorem aaD {t:TypeId} {z:V} (hz:mg P t=some z) (w:World) (g:G):∃ Z,(zeroValue t).run P w=.ok Z w∧Rv g z Z:=by
 unfold mg at hz
 cases hi:P.info? t with
 |none=>simp [hi] at hz
 |some i =>
  cases hzz:i.zero with
  |none=>simp [hi,hzz] at hz
  |some Z =>
   have hr:=Rv.cV 5 g Z
   simp [hi,hzz] at hz
   refine ⟨Z,by simp [zeroValue,typeInfo,program,Sem.run,hi,hzz,Result.andThen],?_⟩
   split at hz
   ·cases hz
   ·simp at hz;rw [←hz];exact hr
theorem Qd {d:Nat} {o:Oper} {t kt e:TypeId} {x k:Operand} {x' k':aF} {ok:Bool} {kc:Nat} {z:V} (hu:P.underlying t=some (.map kt e)) (hk:aaA P kt=some kc) (hz:mg P e=some z)
  (hx:bQ x=some x') (hkk:bQ k=some k') (ho:o.op=.lookup t x k ok):Sound P comp d (.lookup kc z ok x' k') o:=by
 intro g β σ lo fr A w v lo' σ' h ee
 have hrx:=Rs.ev h.f hx
 have hrk:=Rs.ev h.f hkk
 have hkt:=Zd hk
 simp only [aZ,kS] at ee
 generalize hvx:x'.ev fr=vx at ee hrx
 generalize hvk:k'.ev fr=vk at ee hrk
 generalize hq:iC kc vk=q at ee
 cases q
 ·cases ee
 simp only [cond_true] at ee
 cases hm:mapOf vx σ with
 |none=>rw [hm] at ee;cases ee
 |some es =>
 rw [hm] at ee;dsimp only at ee
 cases hf:oV σ vk es 0 with
 |none=>rw [hf] at ee;cases ee
 |some r =>
 rw [hf] at ee
 simp only [OR.ok.injEq] at ee
 obtain ⟨rfl,rfl,rfl⟩:=ee
 obtain ⟨Z,hZ,hZr⟩:=aaD hz w g
 generalize hX:A.eval x=X at hrx
 generalize hK:A.eval k=K at hrk
 have key:∀ (ents:Array MapEntry),es.length=ents.toList.length→(∀ (i:Nat) k x,es[i]?=some (k,x)→∃ e,ents.toList[i]?=some e∧Rv g k e.key∧Rv g x e.val) →
   ((X=.map none∧ents=#[])∨∃ b clock,X=.map (some b)∧w.heap[b]?=some (.map ents clock))→nU P comp g β σ w (uq z ok r) lo σ ((execOp A.eval o).run P w):=by
  intro ents hl he hrun
  obtain ⟨R,hR,hfa⟩:=Rh hkt h.w hrk hq es ents.toList r hl he hf
  have hck:=run_checkKey (w:=w) hkt ents.isEmpty hrk hq
  have hval:∃ Y,(Instr.lookup t X K ok).run P w=.ok Y w∧Rv g (uq z ok r) Y:=by
   cases r with
   |none =>
    have:R=none:=hfa
    subst this
    refine ⟨if ok then .tuple #[Z,.bool false] else Z,?_,?_⟩
    ·rcases hrun with ⟨rfl,rfl⟩|⟨b,clock,rfl,hb⟩
     ·simp at hck hR
      simp [Instr.lookup,aA,run_underlying hu,hck,hR,hZ,Result.andThen]
     ·simp [Instr.lookup,aA,run_underlying hu,MapKept.run_getObj_map hb,hck,hR,hZ,Result.andThen]
    cases ok
    ·simpa [uq] using hZr
    ·simp only [uq,cond_true,if_true]
     exact .mkTuple (.cons hZr (.cons (.bool false) (.nil g)))
   |some p =>
    obtain ⟨i,y⟩:=p
    obtain ⟨e1,_,_,rfl,hy,_⟩:=hfa
    refine ⟨if ok then .tuple #[e1.val,.bool true] else e1.val,?_,?_⟩
    ·rcases hrun with ⟨rfl,rfl⟩|⟨b,clock,rfl,hb⟩
     ·simp at hck hR
      simp [Instr.lookup,aA,run_underlying hu,hck,hR,hZ,Result.andThen]
     ·simp [Instr.lookup,aA,run_underlying hu,MapKept.run_getObj_map hb,hck,hR,hZ,Result.andThen]
    cases ok
    ·simpa [uq] using hy
    ·simp only [uq,cond_true,if_true]
     exact .mkTuple (.cons hy (.cons (.bool true) (.nil g)))
  obtain ⟨Y,hlk,hYr⟩:=hval
  refine .pure h (x:=Y) ?_ (.dP hYr)
  simp only [execOp,ho,hX,hK,aA,hlk,Result.andThen,Sem.run_pure]
 cases vx<;>simp [mapOf] at hm
 ·subst hm
  cases hrx
  exact key #[] rfl (fun i k x hx=>by simp at hx) (.inl ⟨rfl,rfl⟩)
 ·obtain ⟨b,n,ents,h1,h2,h3,h4,_⟩:=h.w.XQ hm
  cases hrx with
  |map DT =>
  obtain ⟨rfl,rfl⟩:=Prod.mk.inj (gy (h1.symm.trans DT))
  refine key ents (by simp [h3]) (fun i k x hx=>let ⟨e,a,b,c,_⟩:=h4 i k x hx;⟨e,by simpa using a,b,c⟩) (.inr ⟨_,_,rfl,h2⟩)
theorem ag1:∀ (es:List (V×V)) (i j:Nat) (v:V),(Dz es i v)[j]?=if i=j then (es[j]?).map fun p=>(p.1,v) else es[j]?:=by
 intro es
 induction es with
 |nil=>intro i j v;simp [Dz]
 |cons p es ih =>
  intro i j v
  obtain ⟨k,x⟩:=p
  cases i with
  |zero=>cases j<;>simp [Dz]
  |succ i =>
   cases j with
   |zero=>simp [Dz]
   |succ j=>simp [Dz,ih]
theorem UJ:∀ (es:List (V×V)) (i:Nat) (v:V),(Dz es i v).length=es.length:=by
 intro es
 induction es with
 |nil=>intro i v;rfl
 |cons p es ih=>intro i v;cases i<;>simp [Dz,ih]
theorem LJ {v:V} {kc:Nat} {K:Value} (hr:Rs g β v K) (hq:iC kc v=true) (n:Nat):Instr.sameBits n K K=true:=by
 cases v<;>simp [iC] at hq
 ·cases hr;cases n<;>simp [Instr.sameBits]
 ·cases hr;cases n<;>simp [Instr.sameBits]
 ·cases hr
  rename_i bs
  have:(bs==bs)=true:=by
   cases bs;rename_i a;show (a==a)=true;simp
  cases n<;>simpa [Instr.sameBits] using this
 ·cases hr;cases n<;>simp [Instr.sameBits]
theorem EM {d:Nat} {o:Oper} {t kt e:TypeId} {m k x:Operand} {m' k' x':aF} {kc:Nat} (hu:P.underlying t=some (.map kt e)) (hk:aaA P kt=some kc)
  (hm:bQ m=some m') (hkk:bQ k=some k') (hx:bQ x=some x') (ho:o.op=.mapUpdate t m k x∨o.op=.insert t m k x):Sound P comp d (.bV kc m' k' x') o:=by
 intro g β σ lo fr A w v lo' σ' h ee
 have hrx:=Rs.ev h.f hx
 have hrk:=Rs.ev h.f hkk
 have hrm:=Rs.ev h.f hm
 have hkt:=Zd hk
 simp only [aZ,ni] at ee
 generalize hvx:x'.ev fr=vx at ee hrx
 generalize hvk:k'.ev fr=vk at ee hrk
 generalize hvm:m'.ev fr=vm at ee hrm
 generalize hq:iC kc vk=q at ee
 cases q
 ·cases ee
 generalize hq2:bY vx=q2 at ee
 cases q2 with
 |true=>cases ee
 |false =>
 simp only [Bool.not_false,Bool.and_self,cond_true] at ee
 have aA8:Rv g vx (A.eval x):=hrx.rv (by intro t o e;subst e;simp [bY] at hq2)
 have aIY:Rv g vk (A.eval k):=hrk.rv (by intro t o e;subst e;simp [iC] at hq)
 cases vm<;>try (cases ee;done)
 rename_i id
 dsimp only at ee
 cases hg:mO σ id with
 |none=>rw [hg] at ee;cases ee
 |some es =>
 rw [hg] at ee;dsimp only at ee
 cases hf:oV σ vk es 0 with
 |none=>rw [hf] at ee;cases ee
 |some r =>
 rw [hf] at ee;dsimp only at ee
 obtain ⟨b,n,ents,h1,h2,h3,h4,h5⟩:=h.w.XQ hg
 have hM:A.eval m=.map (some b):=by
  generalize hz:A.eval m=M at hrm
  cases hrm with
  |map DT=>rw [h1] at DT;cases DT;rfl
 have hlive:Live g σ b:=⟨id,n,by simp [wB hg],h1⟩
 obtain ⟨R,hR,hfa⟩:=Rh hkt h.w hrk hq es ents.toList r (by simp [h3]) (fun i k x hx=>let ⟨e,a,b,c,_⟩:=h4 i k x hx;⟨e,by simpa using a,b,c⟩) hf
 have hck:=run_checkKey (w:=w) hkt false hrk hq
 have hoth:∀ (ob:Go.Obj) (k:Nat),k≠b→({ w with heap:=w.heap.setIfInBounds b ob }:World).heap[k]?=w.heap[k]?:=fun ob k hk=>by
  simp [Array.getElem?_setIfInBounds,Ne.symm hk]
 have hsame:∀ (ob:Go.Obj),({ w with heap:=w.heap.setIfInBounds b ob }:World).heap[b]?=some ob:=fun ob=>by
  have:b<w.heap.size:=(fG.1 h2).1
  simp [Array.getElem?_setIfInBounds,this]
 have hlv:∀ ob b',Live g (σ.set id ob) b'→Live g σ b':=by
  rintro ob b' ⟨i,m',hi,hb'⟩
  rw [H.rQ] at hi
  by_cases e1:id=i
  ·subst e1;exact ⟨id,m',by simp [wB hg],hb'⟩
  ·simp [e1] at hi;exact ⟨i,m',hi,hb'⟩
 have fin:∀ (MB:Array MapEntry) (es':List (V×V)),(Instr.mapUpdate t (A.eval m) (A.eval k) (A.eval x)).run P w=.ok () { w with heap:=w.heap.setIfInBounds b (.map MB MB.size) }→MB.size=es'.length →
   (∀ (i:Nat) k x,es'[i]?=some (k,x)→∃ e,MB[i]?=some e∧Rv g k e.key∧Rv g x e.val∧e.born=i)→nU P comp g β σ w .undef lo (σ.set id (.map es')) ((execOp A.eval o).run P w):=by
  intro MB es' hrun hl he
  refine ⟨undef,_,g,.inr ⟨?_,rfl⟩,.refl g,.dP (.undef _),h.w.put (by simp [wB hg]) h1 (by simp) (hoth _) ⟨MB,hsame _,hl,he⟩,
   h.b.same (.refl g) (fun b' hl _=>hlv _ b' hl) (fun _ _ hp _ o=>hp o) (fun t b' e'=>hoth _ b' (by intro e'';subst e'';exact (h.b.apart t b' e').1 hlive)),
   ⟨rfl,rfl,rfl,by simp,fun k _ hk _ _=>hoth _ k (by intro e';subst e';exact hk hlive)⟩,fun b' hl _=>hlv _ b' hl,fun _ _ h _=>h⟩
  rcases ho with ho|ho<;>simp only [execOp,ho,aA,hrun,Result.andThen,Sem.run_pure]
 cases r with
 |none =>
  have:R=none:=hfa
  subst this
  simp only [Gj,OR.ok.injEq] at ee
  obtain ⟨rfl,rfl,rfl⟩:=ee
  refine fin (ents.push { key:=A.eval k,val:=A.eval x,born:=ents.size }) _ ?_ (by simp [h3]) (fun i k0 x0 hx0=>?_)
  ·simp [Instr.mapUpdate,aA,run_underlying hu,hM,MapKept.run_getObj_map h2,hck,hR,MapKept.run_setObj_map _ h2,Result.andThen]
  ·rw [List.getElem?_append] at hx0
   rw [Array.getElem?_push]
   by_cases hi:i<es.length
   ·rw [if_pos hi] at hx0
    rw [if_neg (by omega)]
    exact h4 i k0 x0 hx0
   ·rw [if_neg hi] at hx0
    have hi0:i-es.length=0:=by
     cases hq3:i-es.length with
     |zero=>rfl
     |succ q=>rw [hq3] at hx0;simp at hx0
    rw [hi0] at hx0
    simp at hx0
    obtain ⟨rfl,rfl⟩:=hx0
    have:i=ents.size:=by omega
    rw [if_pos this]
    exact ⟨_,rfl,aIY,aA8,this.symm⟩
 |some p =>
  obtain ⟨i,y⟩:=p
  obtain ⟨e1,_,he1,rfl,hy,hkey⟩:=hfa
  simp only [Gj,OR.ok.injEq] at ee
  obtain ⟨rfl,rfl,rfl⟩:=ee
  simp only [Nat.sub_zero] at he1
  have he1':ents[i]?=some e1:=by simpa using he1
  have hi:i<ents.size:=(fG.1 he1').1
  have aBd:(Instr.keyThatStays e1.key (A.eval k)).run P w=.ok (A.eval k) w:=by
   unfold Instr.keyThatStays
   rw [hkey,LJ hrk hq]
   simp
  refine fin (ents.modify i fun e=>{ e with key:=A.eval k,val:=A.eval x }) _ ?_ (by simp [UJ,h3]) (fun j k0 x0 hx0=>?_)
  ·simp [Instr.mapUpdate,aA,run_underlying hu,hM,MapKept.run_getObj_map h2,hck,hR,he1',aBd,MapKept.run_setObj_map _ h2,Result.andThen]
  ·rw [ag1] at hx0
   rw [Array.getElem?_modify]
   by_cases hij:i=j
   ·subst hij
    rw [if_pos rfl] at hx0
    cases hes:es[i]? with
    |none=>rw [hes] at hx0;simp at hx0
    |some q =>
     obtain ⟨k1,x1⟩:=q
     rw [hes] at hx0
     simp at hx0
     obtain ⟨rfl,rfl⟩:=hx0
     obtain ⟨e2,g1,g2,g3,g4⟩:=h4 i k1 x1 hes
     rw [he1'] at g1;cases g1
     refine ⟨{ e1 with key:=A.eval k,val:=A.eval x },by simp [he1'],?_,aA8,g4⟩
     rw [hkey] at g2;exact g2
   ·rw [if_neg hij] at hx0
    rw [if_neg hij]
    exact h4 j k0 x0 hx0
end
section
variable {P:Program} {comp:FuncId→Code→aH} {g g':G} {σ σ':H} {w w':World} {β:Nat→Option Nat} {lo lo':Lo} {fr:List V} {A:Act}
theorem U2 {d:Nat} {o:Oper} {x:Operand} {x':aF} {s t:TypeId} (hs:P.underlying s=some .string) (ht:P.underlying t=some .string) (hx:bQ x=some x') (ho:o.op=.convert s t x):Sound P comp d (.vS x') o:=by
 intro g β σ lo fr A w v lo' σ' h e
 have hr:=Rs.ev h.f hx
 simp only [aZ,oD] at e
 split at e
 ·rename_i q hq
  simp only [OR.ok.injEq] at e
  obtain ⟨rfl,rfl,rfl⟩:=e
  obtain ⟨bs,hb,hs'⟩:=sS hr hq
  refine .pure h (x:=.string bs) ?_ (by rw [hs'];exact .dP (.str _))
  simp only [execOp,ho,hb,convert]
  simp [run_underlying hs,run_underlying ht,Result.andThen]
 ·cases e
theorem CJ {d:Nat} {o:Oper} {t el:TypeId} {l c:Operand} {l' c':aF} {s:Nat} {z:V} (hu:P.underlying t=some (.slice el)) (hs:Lj P el=some s) (hz:mg P el=some z) (hl:bQ l=some l') (hc:bQ c=some c') (ho:o.op=.makeSlice t l c) :
  Sound P comp d (.mkSlice z.cells l' c') o:=by
 intro g β σ lo fr A w v lo' σ' h e
 obtain ⟨it,Z,k1,k2,k3,k4,k5,z',k6,k7⟩:=Bj hs
 rw [hz] at k6;cases k6
 obtain ⟨it',Z',q1,q2,q3⟩:=kY (g:=g) hz
 rw [k1] at q1;cases q1
 rw [k2] at q2;cases q2
 have hZ:Z.cells.size=s:=by have:=q3.1;simp at this;omega
 have hrl:=Rs.ev h.f hl
 have hrc:=Rs.ev h.f hc
 simp only [aZ,gW] at e
 split at e<;>try cases e
 rename_i k n hln
 split at e<;>try cases e
 rename_i k2' m hcm
 generalize hq:(Nat.ble n m&&Nat.ble m 16777216)=q at e
 cases q
 ·cases e
 simp only [cond_true,OR.ok.injEq] at e
 obtain ⟨rfl,rfl,rfl⟩:=e
 simp only [au,Nat.ble_eq] at hq
 obtain ⟨hnm,hm⟩:=hq
 have e1:=jv hrl hln
 have e2:=jv hrc hcm
 have hb:(it.bytes:Int)*((m:Nat):Int)≤281474976710656:=by
  have:it.bytes*m≤65536*16777216:=Nat.mul_le_mul k5 hm
  have h':((it.bytes*m:Nat):Int)≤281474976710656:=by omega
  rwa [Int.natCast_mul] at h'
 have hrow:=P5 (g:=g.bind σ.next (w.heap.size,m*Z.cells.size)) (q3.mono (G.uo _ (h.w.fresh _ (bC _)).1)) m
 have hzl:z.cells.length=Z.cells.size:=by have:=q3.1;simpa using this
 refine nU.new h (gob:=.cells ((Array.range (m*Z.cells.size)).map (Z.cells[·%Z.cells.size]!)) el (0,0)) (n:=m*Z.cells.size) (w':=w.alloc (.cells ((Array.range (m*Z.cells.size)).map (Z.cells[·%Z.cells.size]!)) el (0,0)))
  (x:=.slice (some ⟨w.heap.size,0,none⟩) n m) ⟨rfl,rfl,rfl,rfl⟩ ?_ ?_ (.hsl (G.oq _ _ _) hnm (fun c hc=>by cases hc;rfl) (by rw [hzl,Nat.zero_add];exact bC _))
 ·have hrun:=run_make (P:=P) w t el it Z hu k1 k2 k k2' (n:Int) (m:Int) (Int.natCast_nonneg n) (by omega) hb (by omega)
  simp only [Int.toNat_natCast] at hrun
  rw [k3,←hZ] at hrun
  have e1':A.eval l=.int k (n:Int):=e1
  have e2':A.eval c=.int k2' (m:Int):=e2
  simp only [execOp,ho,e1',e2',aA,hrun,Result.andThen,Sem.run_pure]
  rfl
 ·have:=yx (P:=P) (comp:=comp) (w:=w) (w':=w.alloc (.cells ((Array.range (m*Z.cells.size)).map (Z.cells[·%Z.cells.size]!)) el (0,0))) (e:=el) rfl hrow
  simpa using this
theorem GZ:∀ {a b:List V},dO a=true→dO b=true→dO (a++b)=true
 |[],_,_,hb=>hb
 |_::_,_,ha,hb=>by
  simp [dO] at ha ⊢
  exact ⟨ha.1,GZ ha.2 hb⟩
theorem Uh {z:List V} (h:dO z=true):∀ n,dO (rep z n)=true
 |0=>rfl
 |n+1=>GZ h (Uh h n)
theorem UN {d:Nat} {o:Oper} {x:Operand} {x':aF} {ats:Array TypeId} {t el:TypeId} {s:Nat} {z:V} (ht:ats[0]?=some t) (hu:P.underlying t=some (.slice el)) (hs:Lj P el=some s) (hz:mg P el=some z) (hx:bQ x=some x')
  (ho:o.op=.call { callee:=.builtin .clear,args:=#[x],argTypes:=ats }):Sound P comp d (.clear z.cells x') o:=by
 intro g β σ lo fr A w v lo' σ' h e
 obtain ⟨it,Z,k1,k2,k3,k4,k5,z',k6,k7⟩:=Bj hs
 rw [hz] at k6;cases k6
 obtain ⟨it',Z',q1,q2,q3⟩:=kY (g:=g) hz
 rw [k1] at q1;cases q1
 rw [k2] at q2;cases q2
 have hzero:∀ w,(zeroValue el).run P w=.ok Z w:=fun w=>by simp [zeroValue,typeInfo,program,Sem.run,k1,k2,Result.andThen]
 have hr:=Rs.ev h.f hx
 have hex:∀ (r:Result Value),(Builtin.clear_ ats o.type #[A.eval x]).run P w=r→(execOp A.eval o).run P w=r.andThen fun v w=>.ok (.value v) w:=by
  intro r hr
  simp only [execOp,ho,resolve,invoke,builtin,aA,Sem.run_pure,Result.andThen]
  simp [hr]
 simp only [aZ,qE] at e
 generalize hv:x'.ev fr=vx at e hr
 generalize hX:A.eval x=X at hr hex
 have idle:∀ (r:Result Next),r=.ok (.value (.tuple #[])) w→nU P comp g β σ w .undef lo σ r:=fun r hr=>.pure h hr (.dP (.undef _))
 cases vx<;>try (cases e;done)
 ·simp only [OR.ok.injEq] at e
  obtain ⟨rfl,rfl,rfl⟩:=e
  cases hr
  refine idle _ ?_
  rw [hex (.ok (.tuple #[]) w)]
  ·rfl
  ·simp [Builtin.clear_,ht,run_underlying hu,Result.andThen]
 ·rename_i xs ex
  cases xs with
  |cons a b=>cases e
  |nil =>
   simp only [OR.ok.injEq] at e
   obtain ⟨rfl,rfl,rfl⟩:=e
   cases hr
   refine idle _ ?_
   rw [hex (.ok (.tuple #[]) w)]
   ·rfl
   ·simp [Builtin.clear_,ht,run_underlying hu,Result.andThen]
 ·rename_i id off len cap sz
  dsimp only at e
  generalize hq:dO z.cells=q at e
  cases q
  ·cases e
  simp only [cond_true] at e
  cases hg:getCells σ id with
  |none=>rw [hg] at e;cases e
  |some cs =>
  rw [hg] at e;dsimp only at e
  cases hsp:splice off cs (rep z.cells len) with
  |none=>rw [hsp] at e;cases e
  |some r =>
  rw [hsp] at e
  simp only [OR.ok.injEq] at e
  obtain ⟨rfl,rfl,rfl⟩:=e
  cases hr with
  |@hsl _ b m _ _ _ c' _ hρ hlc hcap hmn =>
  have hrep:=P5 (g:=g) q3 len
  have hok:=Uh hq len
  obtain ⟨w',s1,s2,s3⟩:=h.write hg hρ hrep hok hsp
  have hzl:z.cells.length=Z.cells.size:=by have:=q3.1;simpa using this
  refine s2 _ (.tuple #[]) (.dP (.undef _)) _ ?_
  rw [hex (.ok (.tuple #[]) w')]
  ·rfl
  ·cases len with
   |zero =>
    have hw:w'=w:=by
     have:(storeCells ⟨b,off,none⟩ ((Array.range (0*Z.cells.size)).map (Z.cells[·%Z.cells.size]!)).toList).run P w=.ok () w:=by simp [storeCells]
     rw [this] at s1;cases s1;rfl
    subst hw
    simp [Builtin.clear_,ht,run_underlying hu,Result.andThen]
   |succ n =>
    have hzc:Builtin.zeroCells Z.cells (n+1)=(Array.range ((n+1)*Z.cells.size)).map (Z.cells[·%Z.cells.size]!):=rfl
    simp only [Builtin.clear_,List.getElem?_toArray,List.getElem?_cons_zero,ht,aA,run_underlying hu,Result.andThen,hzero,hzc,s1,Sem.run_pure]
theorem LM {d:Nat} {o:Oper} {x y:Operand} {x' y':aF} {ats:Array TypeId} {t u e:TypeId} {k:IntKind} {s:Nat} {z:V} (h0:ats[0]?=some t) (h1:ats[1]?=some u) (ht:P.underlying t=some (.slice e)) (hu:P.underlying u=some (.int k))
  (hs:Lj P e=some s) (hz:mg P e=some z) (hx:bQ x=some x') (hy:bQ y=some y') (ho:o.op=.call { callee:=.builtin .append,args:=#[x,y],argTypes:=ats }):Sound P comp d (.lI z.cells x' y') o:=by
 intro g β σ lo fr A w v lo' σ' h e1
 obtain ⟨it,Z,k1,k2,k3,k4,k5,z',k6,k7⟩:=Bj hs
 rw [hz] at k6;cases k6
 obtain ⟨it',Z',q1,q2,q3⟩:=kY (g:=g) hz
 rw [k1] at q1;cases q1
 rw [k2] at q2;cases q2
 have hZ:Z.cells.size=s:=by have:=q3.1;simp at this;omega
 have hrx:=Rs.ev h.f hx
 have hry:=Rs.ev h.f hy
 simp only [aZ,kH] at e1
 split at e1<;>try cases e1
 rename_i k' n hyn
 generalize hq:(eqK k' .i64&&Nat.ble n 16777216&&Nat.blt 0 n)=q at e1
 cases q
 ·cases e1
 simp only [cond_true] at e1
 split at e1<;>try cases e1
 rename_i hxn
 rw [hxn] at hrx
 generalize hX:A.eval x=X at hrx
 cases hrx
 have e2:=jv hry hyn
 simp only [au,Nat.ble_eq,kP,decide_eq_true_eq] at hq
 obtain ⟨⟨hk,hm⟩,hpos⟩:=hq
 have hpos:=qp hpos
 subst hk
 have w1:IntKind.i64.wrap (Int.ofNat n)=(n:Int):=wrap_i64 (by simp only [Int.ofNat_eq_natCast];omega) (by simp only [Int.ofNat_eq_natCast];omega)
 have c1:¬((n:Int)<0):=by omega
 have c2:¬(281474976710656<(n:Int)*(it.bytes:Int)):=by
  have:n*it.bytes≤16777216*65536:=Nat.mul_le_mul hm k5
  have h':((n*it.bytes:Nat):Int)≤281474976710656:=by omega
  rw [Int.natCast_mul] at h'
  omega
 have hn0:¬(n=0):=by omega
 have c3:¬(n*it.size=0):=by rw [k3];intro hc;rcases Nat.mul_eq_zero.1 hc with h|h;exact hn0 h;exact k4 h
 have c4:¬(9223372036854775807<(n:Int)):=by omega
 have h48:=JO (need:=n) (c:=0) hpos
 have h48':¬(281474976710656<Builtin.nextslicecap n 0*it.bytes):=by
  have:Builtin.nextslicecap n 0*it.bytes≤33555432*65536:=Nat.mul_le_mul (by omega) k5
  omega
 have hrun:(Builtin.append_ ats o.type #[.slice none 0 0,.int .i64 (Int.ofNat n)]).run P w=.ok (.slice (some ⟨w.heap.size,0,none⟩) n (grownCap w n 0 e)) (w.drew.alloc (.cells (#[]++Builtin.zeroCells Z.cells n++Builtin.zeroCells Z.cells (grownCap w n 0 e-n)) e)):=by
  have c5:¬(n≤0):=by omega
  have w1':IntKind.i64.wrap ((n:Nat):Int)=(n:Int):=w1
  simp [Builtin.append_,h0,h1,run_underlying ht,run_underlying hu,sizeOf,typeInfo,zeroValue,k1,k2,asInt,asIntOf,w1',c1,c2,c3,c4,c5,hn0,h48',Question.forced,newRow,grownCap,Builtin.firstCells,Result.andThen]
 have hrep:=P5 (g:=g) q3 n
 refine nU.grown (n:=n) (cap:=grownCap w n 0 e) (sz:=z.cells.length) (olds:=[]) (news:=(Builtin.zeroCells Z.cells n).toList) (z:=Z.cells) (e:=e) h (by rw [k7];exact hZ) ?_ (by rw [Dy]) (by have:=grownCap_ge w n 0 e;omega) rfl ?_
 ·simpa [Builtin.zeroCells] using hrep
 ·simp only [execOp,ho,resolve,invoke,builtin,aA,Sem.run_pure,Result.andThen]
  have e2':A.eval y=.int .i64 (Int.ofNat n):=e2
  simp only [List.map_toArray,List.map_cons,List.map_nil,hX,e2']
  rw [hrun]
end
section
variable {P:Program} {comp:FuncId→Code→aH} {g g':G} {σ σ':H} {w w':World} {β:Nat→Option Nat} {lo lo':Lo} {fr:List V} {A:Act}
theorem jJ {w:World} {a:Addr} {n k:Nat} (h:k≠a.block):(w.freeze a n).heap[k]?=w.heap[k]?:=by
 unfold World.freeze
 split
 ·rfl
 ·simp [Array.getElem?_modify,Ne.symm h]
theorem Gz {w:World} {a:Addr} {n:Nat}:(w.freeze a n).heap.size=w.heap.size:=by
 unfold World.freeze
 split<;>simp
theorem Ry {w:World} {a:Addr} {n:Nat} (b o:Nat):(w.freeze a n).cell? ⟨b,o,none⟩=w.cell? ⟨b,o,none⟩:=by
 by_cases h:b=a.block
 ·subst h
  unfold World.freeze
  split
  ·rfl
  ·simp only [World.cell?,Array.getElem?_modify]
   simp only [if_true]
   cases hq:w.heap[a.block]? with
   |none=>simp
   |some ob=>cases ob<;>simp
 ·exact cell_of_block (a:=⟨b,o,none⟩) (jJ h)
theorem YH {d:Nat} {o:Oper} {x:Operand} {x':aF} {s t el e0:TypeId} (hs:P.underlying s=some (.slice e0)) (ht:P.underlying t=some (.slice el)) (he:P.underlying e0=some (.int .u8)) (hst:s=t) (hx:bQ x=some x') (ho:o.op=.convert s t x) :
  Sound P comp d (.zK x') o:=by
 intro g β σ lo fr A w v lo' σ' h e
 have hr:=Rs.ev h.f hx
 simp only [aZ,rF] at e
 generalize hv:x'.ev fr=vx at e hr
 cases vx<;>try (cases e;done)
 rename_i xs ex
 cases xs with
 |nil=>cases e
 |cons y ys =>
 dsimp only at e
 cases y<;>try (simp [Jz] at e;done)
 rename_i ky ny
 simp only [Jz,cond_true,OR.ok.injEq] at e
 obtain ⟨rfl,rfl,rfl⟩:=e
 subst hst
 rw [hs] at ht;cases ht
 generalize hX:A.eval x=X at hr
 have hr0:Rv g (.list (.int ky ny::ys) ex) X:=hr
 cases hr with
 |@list _ _ b off cap k vs hk hc hex hpn hv' hrr =>
 have OU:g.φ b off=some (vs 0 0):=by
  have:=hv' 0 _ 0 (.int ky ny) rfl rfl
  simpa using this
 have hcell:=h.w.frozen b off _ OU
 have hne:∀ k,(∀ o,g.φ k o=none)∨g.pin k→k≠b:=by
  intro k hk e;subst e
  rcases hk with hk|hk
  ·rw [hk off] at OU;cases OU
  ·exact hpn _ fF rfl hk
 have aIP:∃ C ty fz,w.heap[b]?=some (.cells C ty fz):=by
  cases hq:w.heap[b]? with
  |none=>simp [World.cell?,hq] at hcell
  |some ob=>cases ob<;>simp [World.cell?,hq] at hcell;exact ⟨_,_,_,rfl⟩
 obtain ⟨C,ty,fz,hb⟩:=aIP
 have hw':Rw P comp g σ (w.freeze { block:=b,off:=C.size } 1):=by
  refine ⟨fun b' o' v' e'=>?_,fun i ob e'=>?_,h.w.inj,h.w.fresh,fun i b' n e'=>by rw [Gz];exact h.w.bound i b' n e'⟩
  ·rw [Ry];exact h.w.frozen b' o' v' e'
  ·obtain ⟨b',n,r,kk,f⟩:=h.w.objs i ob e'
   exact ⟨b',n,r,kk.mono (.refl g) (jJ (hne b' (.inl f))),f⟩
 refine ⟨.slice (some ⟨b,off,none⟩) (V.int ky ny::ys).length cap,w.freeze { block:=b,off:=C.size } 1,g,.inl ?_,.refl g,hr0,hw',h.b.same (.refl g) (fun _ hl _=>hl) (fun _ _ hp _=>hp) (fun t b' e'=>jJ (hne b' (.inl (h.b.apart t b' e').2))),
  ⟨?_,?_,?_,by rw [Gz];exact bC _,fun k _ _ _ hp=>jJ (hne k hp)⟩,fun _ hl _=>hl,fun _ _ hp _=>hp⟩
 ·have hsh:w.shape? b=some (ty,C.size):=AL hb
  have hm:(markStringish ⟨b,off,none⟩).run P w=.ok () (w.freeze { block:=b,off:=C.size } 1):=by
   simp [markStringish,Go.shape,freeze,Sem.run,hsh,Result.andThen]
  simp only [execOp,ho,hX,convert]
  simp [run_underlying hs,run_underlying he,hm,Result.andThen]
 all_goals (unfold World.freeze;split<;>rfl)
end
section
variable {P:Program} {comp:FuncId→Code→aH} {idle:List Nat} {g g' g'':G} {σ σ' oJ:H} {w w' w'':World} {β β' β'':Nat→Option Nat} {lo lo':Lo} {fr fr':List V} {A A':Act} {B0:Nat}
def Fw (ro:Option Nat):Fence:={ fn:=fun _=>True,depth:=none,alive:=false,round:=ro }
structure wZ (P:Program) (f:FuncId):Prop where
 enters:∀ (args:Array Value) (w:World),(callFunc f args).run P w=.ok (.enter f args) w
 calls:∀ (args:Array Value) (w:World),CallsDIn (Fw none) 0 P f args .returning w fun e u w'=>(∃ v,e=.returned v)∧u=.returning∧w'.heap=w.heap∧w'.os=w.os∧w'.tape=w.tape∧w'.output=w.output
def Df (P:Program) (B0:Nat) (w:World):List Deferred→Prop
 |[]=>True
 |d::ds=>((∃ r,B0≤r∧d.target=.collected r∧w.heap[r]?=some (.deferred (some []))∧∀ d'∈ds,d'.target≠.collected r)∨(∃ f cap,d.target=.fn (.func f) cap∧wZ P f))∧Df P B0 w ds
structure Sc (P:Program) (comp:FuncId→Code→aH) (B0:Nat) (g:G) (β:Nat→Option Nat) (σ:H) (lo:Lo) (fr:List V) (A:Act) (w:World):Prop where
 s:St P comp g β σ lo fr A w
 d:Df P B0 w A.defers
 le:B0≤w.heap.size
structure Stp (g:G) (β:Nat→Option Nat) (σ:H) (w:World) (g':G) (β':Nat→Option Nat) (σ':H) (w':World):Prop where
 le:g.le g'
 nI:Frm g σ (Cj β) w w'
 live:∀ b,Live g' σ' b→b<w.heap.size→Live g σ b
 box:∀ t b,β' t=some b→b<w.heap.size→Cj β b
 phi:∀ b,b<w.heap.size→(∀ o,g.φ b o=none)→¬Live g σ b→∀ o,g'.φ b o=none
theorem Stp.refl:Stp g β σ w g β σ w:=⟨.refl g,.refl _,fun _ h _=>h,fun t b h _=>⟨t,h⟩,fun _ _ h _=>h⟩
theorem Stp.trans (h:Stp g β σ w g' β' σ' w') (k:Stp g' β' σ' w' g'' β'' oJ w''):Stp g β σ w g'' β'' oJ w'' where
 le:=h.le.trans k.le
 nI:=⟨k.nI.os.trans h.nI.os,k.nI.tape.trans h.nI.tape,k.nI.output.trans h.nI.output,Nat.le_trans h.nI.size k.nI.size,fun i hi hl hb hp =>
  (k.nI.block i (Nat.lt_of_lt_of_le hi h.nI.size) (fun x=>hl (h.live i x hi)) (fun ⟨t,ht⟩=>hb (h.box t i ht hi)) (hp.imp (fun hp=>h.phi i hi hp hl) (h.le.pin i).1)).trans (h.nI.block i hi hl hb hp)⟩
 live b hb hlt:=h.live b (k.live b hb (Nat.lt_of_lt_of_le hlt h.nI.size)) hlt
 box t b hb hlt:=let ⟨u,hu⟩:=k.box t b hb (Nat.lt_of_lt_of_le hlt h.nI.size);h.box u b hu hlt
 phi b hlt hp hl:=k.phi b (Nat.lt_of_lt_of_le hlt h.nI.size) (h.phi b hlt hp hl) (fun x=>hl (h.live b x hlt))
theorem St.nobody (h:St P comp g β σ lo fr A w) {r:Nat} {ds:Option (List Deferred)} (hr:w.heap[r]?=some (.deferred ds)):¬Live g σ r∧¬Cj β r∧∀ o,g.φ r o=none:=by
 refine ⟨?_,?_,fun o=>?_⟩
 ·rintro ⟨i,n,hi,hb⟩
  cases e:σ.get i with
  |none=>simp [e] at hi
  |some ob =>
   obtain ⟨b,n',h1,h2,_⟩:=h.w.objs i ob e
   rw [hb] at h1;cases h1
   cases ob with
   |cells cs=>obtain ⟨c,ty,h3,_⟩:=h2;rw [hr] at h3;cases h3
   |map es=>obtain ⟨ents,h3,_⟩:=h2;rw [hr] at h3;cases h3
   |loop l=>obtain ⟨L,h3,_⟩:=h2;rw [hr] at h3;cases h3
 ·rintro ⟨t,ht⟩
  obtain ⟨cs,c,ty,_,h5,_⟩:=h.b.boxes t r ht
  rw [hr] at h5;cases h5
 ·cases e:g.φ r o with
  |none=>rfl
  |some v =>
   have:=h.w.frozen r o v e
   simp [World.cell?,hr] at this
theorem Df.keep:∀ {ds:List Deferred},(∀ (r:Nat) (x:Option (List Deferred)),w.heap[r]?=some (Go.Obj.deferred x)→w'.heap[r]?=w.heap[r]?)→Df P B0 w ds→Df P B0 w' ds
 |[],_,_=>trivial
 |d::ds,hk,h=>by
  refine ⟨?_,Df.keep hk h.2⟩
  rcases h.1 with ⟨r,h0,h1,h2,h3⟩|h1
  ·exact .inl ⟨r,h0,h1,(hk r _ h2).trans h2,h3⟩
  ·exact .inr h1
theorem Sc.step (h:Sc P comp B0 g β σ lo fr A w) (hs:Stp g β σ w g' β' σ' w') {ds:List Deferred} (hd:ds=A.defers):Df P B0 w' ds:=by
 subst hd
 refine Df.keep (fun r x hr=>?_) h.d
 have:=h.s.nobody hr
 exact hs.nI.block r (fG.1 hr).1 this.1 this.2.1 (.inl this.2.2)
def Jump.ex:Jump→Exit
 |.ret=>.ret
 |.exit i=>.exit i
 |.goto l=>.goto l
def jR (P:Program) (comp:FuncId→Code→aH) (B0:Nat) (g:G) (β:Nat→Option Nat) (σ:H) (w:World) (out:Out):Exit→Act→World→Prop :=
 fun e A' w'=>∃ (fr':List V) (lo':Lo) (σ':H),((out=.norm fr' lo' σ'∧e=.normal)∨∃ j,out=.jump j fr' lo' σ'∧e=j.ex) ∧
  ∃ (g':G) (β':Nat→Option Nat),Sc P comp B0 g' β' σ' lo' fr' A' w'∧Stp g β σ w g' β' σ' w'
theorem jR.after (hs:Stp g β σ w g' β' σ' w') {out:Out} {e:Exit} {a:Act} {v:World} (h:jR P comp B0 g' β' σ' w' out e a v):jR P comp B0 g β σ w out e a v:=by
 obtain ⟨wX,lo1,σ1,h1,g1,β1,h2,h3⟩:=h
 exact ⟨wX,lo1,σ1,h1,g1,β1,h2,hs.trans h3⟩
def IC (P:Program) (comp:FuncId→Code→aH) (vc:aH) (fr:List V) (lo:Lo) (σ:H) (out:Out):Prop :=
 ∀ (f:FuncId) (c:Code) (ro:Option Nat) (B0:Nat) (g:G) (β:Nat→Option Nat) (A:Act) (w:World),comp f c=vc→(ro.isSome=true→flat c=true)→Sc P comp B0 g β σ lo fr A w→out≠.fail→c.wpIn (Fw ro) 0 P (jR P comp B0 g β σ w out) A w
theorem BK (h:Sc P comp B0 g β σ lo fr A w):jR P comp B0 g β σ w (.norm fr lo σ) .normal A w:=⟨fr,lo,σ,.inl ⟨rfl,rfl⟩,g,β,h,.refl⟩
theorem BJ (h:Sc P comp B0 g β σ lo fr A w) (j:Jump):jR P comp B0 g β σ w (.jump j fr lo σ) j.ex A w:=⟨fr,lo,σ,.inr ⟨j,rfl,rfl⟩,g,β,h,.refl⟩
theorem seq_ok {x y:Code} {ro:Option Nat} {o1 out:Out} (hx:x.wpIn (Fw ro) 0 P (jR P comp B0 g β σ w o1) A w)
  (hn:∀ wX lo1 σ1 g1 β1 A1 w1,o1=.norm wX lo1 σ1→Sc P comp B0 g1 β1 σ1 lo1 wX A1 w1→y.wpIn (Fw ro) 0 P (jR P comp B0 g1 β1 σ1 w1 out) A1 w1)
  (hj:∀ j wX lo1 σ1,o1=.jump j wX lo1 σ1→out=.jump j wX lo1 σ1):(Code.seq x y).wpIn (Fw ro) 0 P (jR P comp B0 g β σ w out) A w:=by
 refine wpIn_seq (wpIn_mono hx fun e a v hp=>?_)
 obtain ⟨wX,lo1,σ1,h1,g1,β1,h2,h3⟩:=hp
 rcases h1 with ⟨ho,rfl⟩|⟨j,ho,rfl⟩
 ·exact wpIn_mono (hn wX lo1 σ1 g1 β1 a v ho h2) fun e a' v' hq=>hq.after h3
 ·have:jR P comp B0 g β σ w out j.ex a v:=⟨wX,lo1,σ1,.inr ⟨j,hj _ _ _ _ ho,rfl⟩,g1,β1,h2,h3⟩
  cases j<;>exact this
theorem adU {id:Nat} {c:Code} {ro:Option Nat} {o1:Out} (hx:c.wpIn (Fw ro) 0 P (jR P comp B0 g β σ w o1) A w):(Code.block id c).wpIn (Fw ro) 0 P (jR P comp B0 g β σ w (mP id o1)) A w:=by
 refine wpIn_block (wpIn_mono hx fun e a v hp=>?_)
 obtain ⟨wX,lo1,σ1,h1,g1,β1,h2,h3⟩:=hp
 rcases h1 with ⟨rfl,rfl⟩|⟨j,rfl,rfl⟩
 ·exact ⟨wX,lo1,σ1,.inl ⟨rfl,rfl⟩,g1,β1,h2,h3⟩
 ·cases j with
  |ret=>exact ⟨wX,lo1,σ1,.inr ⟨.ret,rfl,rfl⟩,g1,β1,h2,h3⟩
  |goto l=>exact ⟨wX,lo1,σ1,.inr ⟨.goto l,rfl,rfl⟩,g1,β1,h2,h3⟩
  |exit i =>
   by_cases hi:i=id
   ·subst hi
    simp only [Jump.ex,Exit.inBlock,if_true]
    exact ⟨wX,lo1,σ1,.inl ⟨by simp [mP],rfl⟩,g1,β1,h2,h3⟩
   ·simp only [Jump.ex,Exit.inBlock,hi,if_false]
    exact ⟨wX,lo1,σ1,.inr ⟨.exit i,by simp [mP,DZ hi],rfl⟩,g1,β1,h2,h3⟩
theorem Ot {c:Operand} {c':aF} {x y:Code} {ro:Option Nat} {t:Bool} {Q:Exit→Act→World→Prop} (h:St P comp g β σ lo fr A w) (hc:bQ c=some c') (ht:c'.ev fr=.bool t)
  (hx:(if t then x else y).wpIn (Fw ro) 0 P Q A w):(Code.cond c x y).wpIn (Fw ro) 0 P Q A w :=
 wpIn_cond (D5 (Rs.ev h.f hc) ht) hx
end
end Go.Vx
