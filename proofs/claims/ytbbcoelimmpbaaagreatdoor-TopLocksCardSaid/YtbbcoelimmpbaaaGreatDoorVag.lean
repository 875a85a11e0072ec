/- A part of the proof of TopLocks. -/
import Derived.Test.YtbbcoelimmpbaaaGreatDoorVaf
set_option linter.all false
set_option linter.unusedVariables false
set_option linter.unusedSimpArgs false
set_option maxRecDepth 1000000
noncomputable section
namespace Go.Vx
section
open Go
variable {ρ:V→V} [Good ρ] {lo:Lo} {h:H} {fr:List V}
theorem aCY (x:aF):dU ρ (jh x fr lo h) (jh (aN ρ x) (subs ρ fr) (dG ρ lo) (dH ρ h)):=fun _=>by simp only [jh,fH,Qk]
theorem apl (c a b:aF):dU ρ (qG c a b fr lo h) (qG (aN ρ c) (aN ρ a) (aN ρ b) (subs ρ fr) (dG ρ lo) (dH ρ h)):=by
 simp only [qG,fH]
 generalize c.ev fr=C
 cases C with
 |bool t=>cases t<;>simp only [sub]<;>exact fun _=>rfl
 |_=>exact dU.fail _
theorem agE (d:Nat) (z:List V):dU ρ (dD d z fr lo h) (dD d (subs ρ z) (subs ρ fr) (dG ρ lo) (dH ρ h)):=fun _=>by simp only [dD,Qk,sub,BD]
theorem acJ (z:List V):dU ρ (bI z fr lo h) (bI (subs ρ z) (subs ρ fr) (dG ρ lo) (dH ρ h)):=fun _=>by
 simp only [bI,Qk,sub,rH,←xZ,LY]
theorem BN {X:V} {f g:V→OR} (hfg:X≠.undef→dU ρ (f X) (g (sub ρ X))):dU ρ (match (generalizing:=false) X with|.bf _ _=>.fail|.undef=>.fail|v=>f v) (match (generalizing:=false) sub ρ X with|.bf _ _=>.fail|.undef=>.fail|v=>g v):=by
 have hn:=JQ (ρ:=ρ) X OR.fail g
 cases X with
 |undef=>exact dU.fail _
 |bf _ _=>exact dU.fail _
 |_=>exact fun hne=>hn.trans (hfg (by intro h;cases h) hne)
theorem apj (d:Nat) (x:aF):dU ρ (wV d x fr lo h) (wV d (aN ρ x) (subs ρ fr) (dG ρ lo) (dH ρ h)):=by
 simp only [wV,fH]
 generalize x.ev fr=X
 refine BN (ρ:=ρ) (f:=fun v=>.ok (.bf d 0) (dS lo d v.cells) h) (g:=fun v=>.ok (.bf d 0) (dS (dG ρ lo) d v.cells) (dH ρ h)) fun _=>dU.ok _ _ _ ?_
 simp only [sub,uP,BD]
theorem aph (x:aF):dU ρ (yU x fr lo h) (yU (aN ρ x) (subs ρ fr) (dG ρ lo) (dH ρ h)):=by
 simp only [yU,fH]
 generalize x.ev fr=X
 refine BN (ρ:=ρ) (f:=fun v=>.ok (.dF h.next 0) lo (h.new (.cells v.cells))) (g:=fun v=>.ok (.dF (dH ρ h).next 0) (dG ρ lo) ((dH ρ h).new (.cells v.cells))) fun _=>dU.ok _ _ _ ?_
 simp only [sub,uP,←xZ,LY,rH]
theorem Jk:∀ (ps:List (Nat×Nat×aF)) (cells:List V) (cs:List V),fill cells ps fr=some cs→fill (subs ρ cells) (zk ρ ps) (subs ρ fr)=some (subs ρ cs)
 |[],cells,cs,e=>by simp only [fill,aC] at e;subst e;simp [fill,zk]
 |(off,sz,x)::r,cells,cs,e=>by
  simp only [fill,zk,fH] at e ⊢
  generalize x.ev fr=X at e ⊢
  have hc:=uP (ρ:=ρ) X
  have key:(bif Nat.beq X.cells.length sz then (match splice off cells X.cells with|some cs=>fill cs r fr|none=>none) else none)=some cs→(bif Nat.beq (sub ρ X).cells.length sz then (match splice off (subs ρ cells) (sub ρ X).cells with|some cs=>fill cs (zk ρ r) (subs ρ fr)|none=>none) else none)=some (subs ρ cs):=by
   intro e
   rw [hc,iy,pY]
   cases hb:Nat.beq X.cells.length sz with
   |false=>rw [hb] at e;cases e
   |true =>
    rw [hb] at e
    simp only [cond_true] at e ⊢
    cases hs:splice off cells X.cells with
    |none=>rw [hs] at e;cases e
    |some c2=>rw [hs] at e;exact Jk r c2 cs e
  have:=JQ (ρ:=ρ) X (none:Option (List V)) (fun v=>bif Nat.beq v.cells.length sz then (match splice off (subs ρ cells) v.cells with|some cs=>fill cs (zk ρ r) (subs ρ fr)|none=>none) else none)
  refine Eq.trans this ?_
  cases X with
  |undef=>cases e
  |bf _ _=>cases e
  |_=>exact key e
theorem agF (z:List V) (ps:List (Nat×Nat×aF)):dU ρ (dB z ps fr lo h) (dB (subs ρ z) (zk ρ ps) (subs ρ fr) (dG ρ lo) (dH ρ h)):=by
 simp only [dB]
 cases he:fill z ps fr with
 |none=>exact dU.fail _
 |some cs=>rw [Jk ps z cs he];exact dU.ok _ _ _ (by simp only [sub])
theorem azg (z:List V) (sz n:Nat) (ps:List (Nat×Nat×aF)):dU ρ (fO z sz n ps fr lo h) (fO (subs ρ z) sz n (zk ρ ps) (subs ρ fr) (dG ρ lo) (dH ρ h)):=by
 simp only [fO,EJ]
 cases he:fill (rep z n) ps fr with
 |none=>exact dU.fail _
 |some cs =>
  rw [Jk ps _ cs he]
  simp only [FB]
  cases chunk sz n cs with
  |none=>exact dU.fail _
  |some xs=>exact dU.ok _ _ _ (by simp only [sub,bP])
theorem zT {a:V} {cs:List V} (e:bg a lo h=some cs):bg (sub ρ a) (dG ρ lo) (dH ρ h)=some (subs ρ cs):=by
 cases a with
 |bf t off =>
  simp only [bg,sub,FY] at e ⊢
  cases hg:dQ lo t with
  |none=>rw [hg] at e;cases e
  |some c=>rw [hg] at e;cases e;simp only [bP,pF]
 |dF id off =>
  simp only [bg,sub,ku] at e ⊢
  cases hg:getCells h id with
  |none=>rw [hg] at e;cases e
  |some c=>rw [hg] at e;cases e;simp only [bP,pF]
 |gX c=>simp only [bg,aC] at e;subst e;simp only [bg,sub]
 |_=>cases e
theorem agJ (a:aF):dU ρ (cu a fr lo h) (cu (aN ρ a) (subs ρ fr) (dG ρ lo) (dH ρ h)):=by
 simp only [cu,fH]
 cases he:bg (a.ev fr) lo h with
 |none=>exact dU.fail _
 |some cs =>
  rw [zT he]
  cases cs with
  |nil=>exact dU.fail _
  |cons c cs=>simp only [subs];exact dU.ok _ _ _ rfl
theorem agK (sz:Nat) (a:aF):dU ρ (cO sz a fr lo h) (cO sz (aN ρ a) (subs ρ fr) (dG ρ lo) (dH ρ h)):=by
 simp only [cO,fH]
 cases he:bg (a.ev fr) lo h with
 |none=>exact dU.fail _
 |some cs =>
  rw [zT he]
  simp only [oI]
  cases takeN sz cs with
  |none=>exact dU.fail _
  |some r=>exact dU.ok _ _ _ (by simp only [sub,bP])
theorem Yw (a:V) (vs:List V):dU ρ (bH a vs lo h) (bH (sub ρ a) (subs ρ vs) (dG ρ lo) (dH ρ h)):=by
 cases a with
 |bf t off =>
  simp only [bH,sub,FY]
  cases dQ lo t with
  |none=>exact dU.fail _
  |some cs =>
   simp only [bP,pY]
   cases splice off cs vs with
   |none=>exact dU.fail _
   |some c2=>exact dU.ok _ _ _ (by simp only [sub,BD,bP])
 |dF id off =>
  simp only [bH,sub,ku]
  cases getCells h id with
  |none=>exact dU.fail _
  |some cs =>
   simp only [bP,pY]
   cases splice off cs vs with
   |none=>exact dU.fail _
   |some c2=>exact dU.ok _ _ _ (by simp only [sub,←ET,LY,bP])
 |_=>exact dU.fail _
theorem agP (sz:Nat) (a x:aF):dU ρ (jT sz a x fr lo h) (jT sz (aN ρ a) (aN ρ x) (subs ρ fr) (dG ρ lo) (dH ρ h)):=by
 simp only [jT,fH]
 generalize x.ev fr=X
 refine BN (ρ:=ρ) (f:=fun v=>bif Nat.beq v.cells.length sz&&dO v.cells then bH (a.ev fr) v.cells lo h else .fail) (g:=fun v=>bif Nat.beq v.cells.length sz&&dO v.cells then bH (sub ρ (a.ev fr)) v.cells (dG ρ lo) (dH ρ h) else .fail) fun _=>?_
 simp only [uP,iy,Aq]
 cases Nat.beq X.cells.length sz&&dO X.cells with
 |false=>exact dU.fail _
 |true=>exact Yw _ _
theorem agN (x:aF):dU ρ (cZ x fr lo h) (cZ (aN ρ x) (subs ρ fr) (dG ρ lo) (dH ρ h)):=by
 simp only [cZ,fH]
 generalize x.ev fr=X
 cases X with
 |nilPtr=>exact dU.fail _
 |nilFunc=>exact dU.fail _
 |nilIface=>exact dU.fail _
 |undef=>exact dU.fail _
 |iface t w =>
  refine dU.ok _ _ _ ?_
  simp only [jr]
  cases Nat.beq t 1000000 with
  |false=>rfl
  |true =>
   simp only [cond_true]
   rcases jd (ρ:=ρ) w with ⟨b,h⟩|⟨k,n,h⟩|⟨s,h⟩|h|⟨xs,e,h⟩<;>rw [h]
 |_=>exact dU.ok _ _ _ (by simp only [sub])
theorem FD {x y:V} {b:Bool} (e:dZ x y=some b):sub ρ x=x∧sub ρ y=y:=by
 cases x with
 |int k n=>cases y<;>first|(cases e;done)|(simp only [sub,and_self])
 |str s=>cases y<;>first|(cases e;done)|(simp only [sub,and_self])
 |_=>cases e
theorem Je {x y:V} {b:Bool} (e:dK x y=some b):sub ρ x=x∧sub ρ y=y:=by
 cases x with
 |bool k=>cases y<;>first|(simp [dK] at e;done)|(simp only [sub,and_self])
 |_=>simp [dK] at e
theorem MC {x y:V} {b:Bool} (e:jB h x y=some b):jB (dH ρ h) (sub ρ x) (sub ρ y)=some b:=by
 cases x with
 |nilPtr=>cases y<;>first|(simp [jB] at e;done)|(simp only [sub,jB] at e ⊢;exact e)
 |bf _ _=>cases y<;>first|(simp [jB] at e;done)|(simp only [sub,jB] at e ⊢;exact e)
 |gX _=>cases y<;>first|(simp [jB] at e;done)|(simp only [sub,jB] at e ⊢;exact e)
 |dF a o =>
  cases y with
  |nilPtr=>simp only [sub,jB] at e ⊢;exact e
  |dF b' p =>
   simp only [sub,jB,ku] at e ⊢
   cases h1:getCells h a with
   |none=>rw [h1] at e;cases e
   |some cs =>
    rw [h1] at e
    simp only [bP] at e ⊢
    cases h2:getCells h b' with
    |none=>rw [h2] at e;cases e
    |some ds =>
     rw [h2] at e
     simp only [bP,iy] at e ⊢
     exact e
  |_=>simp [jB] at e
 |_=>simp [jB] at e
theorem aer {x y:V} {b:Bool} (e:iK x y=some b):iK (sub ρ x) (sub ρ y)=some b:=by
 cases x with
 |aj=>cases y<;>first|(cases e;done)|(simp only [sub,iK] at e ⊢;exact e)
 |list _ _=>cases y<;>first|(cases e;done)|(simp only [sub,iK] at e ⊢;exact e)
 |hsl _ _ _ _ _=>cases y<;>first|(cases e;done)|(simp only [sub,iK] at e ⊢;exact e)
 |_=>cases e
theorem aaW {x y:V} {b:Bool} (e:wo x y=some b):wo (sub ρ x) (sub ρ y)=some b:=by
 cases x with
 |dV=>cases y<;>first|(cases e;done)|(simp only [sub,wo] at e ⊢;exact e)
 |map _=>cases y<;>first|(cases e;done)|(simp only [sub,wo] at e ⊢;exact e)
 |_=>cases e
theorem ael {x y:V} {b:Bool} (e:eqFn x y=some b):eqFn (sub ρ x) (sub ρ y)=some b:=by
 cases x with
 |nilFunc=>cases y<;>first|(cases e;done)|(simp only [sub,eqFn] at e ⊢;exact e)
 |func _ _ _=>cases y<;>first|(cases e;done)|(simp only [sub,eqFn] at e ⊢;exact e)
 |_=>cases e
theorem aem {x y:V} {b:Bool} (e:y8 x y=some b):y8 (sub ρ x) (sub ρ y)=some b:=by
 cases x with
 |nilIface =>
  cases y with
  |nilIface=>simp only [sub];exact e
  |iface t v =>
   cases hb:Nat.beq t 1000000 with
   |true=>simp [y8,Ad,hb] at e
   |false =>
    simp only [y8,Ad,hb,zG,sub,cond_false,Bool.or_false] at e ⊢
    exact e
  |_=>simp [y8,Ad,zG] at e
 |iface t v =>
  cases y with
  |nilIface =>
   cases hb:Nat.beq t 1000000 with
   |true=>simp [y8,Ad,hb] at e
   |false =>
    simp only [y8,Ad,hb,zG,sub,cond_false,Bool.or_false] at e ⊢
    exact e
  |iface t2 v2=>exact absurd (uY e) (by simp [zG])
  |_=>exact absurd (uY e) (by simp [zG])
 |_=>exact absurd (uY e) (by simp [zG])
theorem anr {cls:Nat} {x y:V} {b:Bool} (e:lH h cls x y=some b):lH (dH ρ h) cls (sub ρ x) (sub ρ y)=some b:=by
 match cls with
 |0=>have:=FD (ρ:=ρ) (x:=x) (y:=y) e;rw [this.1,this.2];exact e
 |1=>have:=Je (ρ:=ρ) (x:=x) (y:=y) e;rw [this.1,this.2];exact e
 |2=>exact MC e
 |3=>exact aer e
 |4=>exact aaW e
 |5=>exact ael e
 |6=>exact aem e
 |n+7=>cases e
theorem anx {x y:V} {b:Bool} (e:eqV h x y=some b):eqV (dH ρ h) (sub ρ x) (sub ρ y)=some b:=by
 cases x with
 |dF a o =>
  have e2:jB h (.dF a o) y=some b:=e
  have e3:=MC (ρ:=ρ) e2
  have hs:sub ρ (.dF a o)=.dF a o:=by simp only [sub]
  rw [hs] at e3 ⊢
  exact e3
 |bool c=>have e2:dK (.bool c) y=some b:=e;have:=Je (ρ:=ρ) e2;rw [this.1,this.2];exact e
 |int k n=>have e2:dZ (.int k n) y=some b:=e;have:=FD (ρ:=ρ) e2;rw [this.1,this.2];exact e
 |str s=>have e2:dZ (.str s) y=some b:=e;have:=FD (ρ:=ρ) e2;rw [this.1,this.2];exact e
 |_=>simp [eqV,dZ] at e
theorem aCX (neg:Bool) (cls:Nat) (x y:aF):dU ρ (iE neg cls x y fr lo h) (iE neg cls (aN ρ x) (aN ρ y) (subs ρ fr) (dG ρ lo) (dH ρ h)):=by
 simp only [iE,fH]
 refine dU.iG fun v e=>?_
 cases hq:lH h cls (x.ev fr) (y.ev fr) with
 |none=>rw [hq] at e;cases neg<;>cases e
 |some b=>rw [hq] at e;rw [anr hq];cases neg<;>cases e<;>simp [gJ,jF,sub]
theorem D6 {f:Int→Int→Bool} {x y v:V} (e:fE f x y=some v):sub ρ x=x∧sub ρ y=y∧sub ρ v=v:=by
 cases x with
 |int k n =>
  cases y with
  |int l m =>
   simp only [fE] at e
   cases hb:eqK k l with
   |false=>rw [hb] at e;cases e
   |true=>rw [hb] at e;cases e;simp [sub]
  |_=>simp [fE] at e
 |_=>simp [fE] at e
theorem Ig {f:Int→Int→Int} {x y v:V} (e:kC f x y=some v):sub ρ x=x∧sub ρ y=y∧sub ρ v=v:=by
 cases x with
 |int k n =>
  cases y with
  |int l m =>
   simp only [kC] at e
   cases hb:eqK k l with
   |false=>rw [hb] at e;cases e
   |true=>rw [hb] at e;cases e;simp [sub]
  |_=>simp [kC] at e
 |_=>simp [kC] at e
theorem afI {x y v:V} (e:gq x y=some v):sub ρ x=x∧sub ρ y=y∧sub ρ v=v:=by
 cases x with
 |str a =>
  cases y with
  |str b=>simp only [gq,aC] at e;subst e;simp [sub]
  |_=>simp [gq] at e
 |_=>exact D6 (f:=uK) e
theorem adG {x y v:V} (e:fZ x y=some v):sub ρ x=x∧sub ρ y=y∧sub ρ v=v:=by
 cases x with
 |str a =>
  cases y with
  |str b =>
   simp only [fZ] at e
   cases hb:Nat.blt (a.length+b.length) 4294967296 with
   |false=>rw [hb] at e;cases e
   |true=>rw [hb] at e;cases e;simp [sub]
  |_=>simp [fZ] at e
 |_=>exact Ig (f:=Int.add) e
theorem agw {x y v:V} (e:nD x y=some v):sub ρ x=x∧sub ρ y=y∧sub ρ v=v:=by
 cases y with
 |int l m =>
  simp only [nD] at e
  cases hb:vZ m 0 with
  |true=>rw [hb] at e;cases e
  |false=>rw [hb] at e;exact Ig e
 |_=>simp [nD] at e
theorem agB {x y v:V} (e:kW x y=some v):sub ρ x=x∧sub ρ y=y∧sub ρ v=v:=by
 cases x with
 |int k n =>
  cases y with
  |int l m =>
   simp only [kW] at e
   cases hb:vZ m 0||!(eqK k l) with
   |true=>rw [hb] at e;cases e
   |false=>rw [hb] at e;cases e;simp [sub]
  |_=>simp [kW] at e
 |_=>simp [kW] at e
theorem ag6 {x y v:V} (e:nG x y=some v):sub ρ x=x∧sub ρ y=y∧sub ρ v=v:=by
 cases x with
 |int k n =>
  cases y with
  |int l m =>
   simp only [nG] at e
   cases hb:uK m 0 with
   |true=>rw [hb] at e;cases e
   |false=>rw [hb] at e;cases e;simp [sub]
  |_=>simp [nG] at e
 |_=>simp [nG] at e
theorem ag8 {x y v:V} (e:nH x y=some v):sub ρ x=x∧sub ρ y=y∧sub ρ v=v:=by
 cases x with
 |int k n =>
  cases y with
  |int l m =>
   simp only [nH] at e
   cases hb:uK m 0 with
   |true=>rw [hb] at e;cases e
   |false=>rw [hb] at e;cases e;simp [sub]
  |_=>simp [nH] at e
 |_=>simp [nH] at e
theorem adS {op:BinOp} {x y v:V} (e:eH op x y=some v):sub ρ x=x∧sub ρ y=y∧sub ρ v=v:=by
 cases op with
 |lss=>exact afI e
 |leq=>exact D6 e
 |gtr=>exact D6 e
 |geq=>exact D6 e
 |add=>exact adG e
 |sub=>exact Ig e
 |mul=>exact Ig e
 |quo=>exact agw e
 |rem=>exact agB e
 |shl=>exact ag6 e
 |shr=>exact ag8 e
 |_=>cases e
theorem azd (op:BinOp) (x y:aF):dU ρ (eY op x y fr lo h) (eY op (aN ρ x) (aN ρ y) (subs ρ fr) (dG ρ lo) (dH ρ h)):=by
 simp only [eY,fH]
 refine dU.iG fun v e=>?_
 obtain ⟨h1,h2,h3⟩:=adS (ρ:=ρ) e
 rw [h1,h2,h3];exact e
theorem azk (x:aF):dU ρ (fU x fr lo h) (fU (aN ρ x) (subs ρ fr) (dG ρ lo) (dH ρ h)):=by
 simp only [fU,fH]
 generalize x.ev fr=X
 cases X with
 |bool b=>simp only [sub];exact dU.ok _ _ _ (by simp only [sub])
 |_=>exact dU.fail _
theorem azj (x:aF):dU ρ (xR x fr lo h) (xR (aN ρ x) (subs ρ fr) (dG ρ lo) (dH ρ h)):=by
 simp only [xR,fH]
 generalize x.ev fr=X
 cases X with
 |int k n=>simp only [sub];exact dU.ok _ _ _ (by simp only [sub])
 |_=>exact dU.fail _
theorem Yr (k:IntKind) (x:aF):dU ρ (aS k x fr lo h) (aS k (aN ρ x) (subs ρ fr) (dG ρ lo) (dH ρ h)):=by
 simp only [aS,fH]
 generalize x.ev fr=X
 cases X with
 |int k n=>simp only [sub];exact dU.ok _ _ _ (by simp only [sub])
 |_=>exact dU.fail _
theorem agQ (x:aF):dU ρ (oD x fr lo h) (oD (aN ρ x) (subs ρ fr) (dG ρ lo) (dH ρ h)):=by
 simp only [oD,fH]
 generalize x.ev fr=X
 cases X with
 |str s=>simp only [sub];exact dU.ok _ _ _ (by simp only [sub])
 |_=>exact dU.fail _
theorem apm (x:aF):dU ρ (rF x fr lo h) (rF (aN ρ x) (subs ρ fr) (dG ρ lo) (dH ρ h)):=by
 simp only [rF,fH]
 generalize x.ev fr=X
 cases X with
 |list xs ex =>
  simp only [sub]
  cases xs with
  |nil=>exact dU.fail _
  |cons y ys =>
   simp only [subs]
   cases y with
   |int k n =>
    simp only [Jz,sub,cond_true]
    exact dU.ok _ _ _ (by simp only [sub,subs])
   |_=>exact dU.fail _
 |_=>exact dU.fail _
theorem Am:∀ s:List Nat,subs ρ (ofBytes s)=ofBytes s
 |[]=>by simp [ofBytes,subs]
 |b::s=>by simp only [ofBytes,subs,sub,Am s]
theorem Yx (x:aF):dU ρ (jU x fr lo h) (jU (aN ρ x) (subs ρ fr) (dG ρ lo) (dH ρ h)):=by
 simp only [jU,fH]
 generalize x.ev fr=X
 cases X with
 |str s=>simp only [sub];exact dU.ok _ _ _ (by simp only [sub,Am])
 |_=>exact dU.fail _
theorem zS:∀ (l:List V) (r:List Nat),bytesOf l=some r→subs ρ l=l
 |[],_,_=>by simp [subs]
 |v::l,r,e=>by
  cases v with
  |int k n =>
   cases k with
   |u8 =>
    cases n with
    |ofNat n =>
     simp only [bytesOf] at e
     cases hb:Nat.blt n 256 with
     |false=>rw [hb] at e;cases e
     |true =>
      rw [hb] at e
      simp only [cond_true] at e
      cases hl:bytesOf l with
      |none=>rw [hl] at e;cases e
      |some q=>simp only [subs,sub,zS l q hl]
    |negSucc n=>simp [bytesOf] at e
   |_=>simp [bytesOf] at e
  |_=>simp [bytesOf] at e
theorem NS (n:Nat) (o:Option (List V)) (off:Nat):vT n (o.map (subs ρ)) off=(vT n o off).map (subs ρ):=by
 cases o with
 |none=>rfl
 |some cs=>simp only [bP,vT,pF,oI]
theorem zQ {v:V} {s:List Nat} (e:bytesIn h v=some s):bytesIn (dH ρ h) (sub ρ v)=some s:=by
 cases v with
 |aj=>simp only [sub,bytesIn] at e ⊢;exact e
 |list xs ex=>simp only [sub,bytesIn] at e ⊢;rw [zS xs s e];exact e
 |hsl id off len c sz =>
  simp only [sub,bytesIn,ku,NS] at e ⊢
  cases ht:vT len (getCells h id) off with
  |none=>rw [ht] at e;cases e
  |some cs=>rw [ht] at e;simp only [bP];rw [zS cs s e];exact e
 |_=>simp [bytesIn] at e
theorem agR (x:aF):dU ρ (oG x fr lo h) (oG (aN ρ x) (subs ρ fr) (dG ρ lo) (dH ρ h)):=by
 simp only [oG,fH]
 cases he:bytesIn h (x.ev fr) with
 |none=>exact dU.fail _
 |some s=>rw [zQ he];exact dU.ok _ _ _ (by simp only [sub])
theorem Yv (t:Nat) (x:aF):dU ρ (kJ t x fr lo h) (kJ t (aN ρ x) (subs ρ fr) (dG ρ lo) (dH ρ h)):=by
 simp only [kJ,fH]
 generalize x.ev fr=X
 cases hb:Nat.beq t 1000000 with
 |true=>cases X<;>exact dU.fail _
 |false =>
  have hl:=FQ (ρ:=ρ) X
  have key:∀ Y:V,bY Y=false→(match Y with|.bf _ _=>OR.fail|v=>bif false then .fail else .ok (.iface t v) (dG ρ lo) (dH ρ h))=.ok (.iface t Y) (dG ρ lo) (dH ρ h):=by
   intro Y hY;cases Y<;>first|rfl|cases hY
  cases X with
  |bf _ _=>exact dU.fail _
  |undef=>simp only [sub];exact dU.ok _ _ _ (by simp only [sub,hb,cond_false])
  |_=>exact dU.ok _ _ _ (by rw [jr t,hb];exact key _ hl)
theorem acQ (fn:Fn) (a b:List aF):dU ρ (bD fn a b fr lo h) (bD fn (yg ρ a) (yg ρ b) (subs ρ fr) (dG ρ lo) (dH ρ h)):=by
 simp only [bD,Ik,qU]
 cases iD (aF.evs a fr)||iD (aF.evs b fr) with
 |true=>exact dU.fail _
 |false=>exact dU.ok _ _ _ (by simp only [sub,cond_false])
theorem agL:dU ρ (EG fr lo h) (EG (subs ρ fr) (dG ρ lo) (dH ρ h)):=fun _=>by
 have:(dH ρ h).new (.map [])=dH ρ (h.new (.map [])):=xZ h (.map [])
 simp only [EG,Qk,sub,rH,this]
theorem Kt (z:List V) (l c:aF):dU ρ (gW z l c fr lo h) (gW (subs ρ z) (aN ρ l) (aN ρ c) (subs ρ fr) (dG ρ lo) (dH ρ h)):=by
 simp only [gW,fH]
 generalize l.ev fr=L
 generalize c.ev fr=C
 cases L with
 |int k n =>
  cases n with
  |negSucc n=>exact dU.fail _
  |ofNat n =>
   cases C with
   |int k2 m =>
    cases m with
    |negSucc m=>exact dU.fail _
    |ofNat m =>
     simp only [sub]
     cases Nat.ble n m&&Nat.ble m 16777216 with
     |false=>exact dU.fail _
     |true =>
      refine dU.ok _ _ _ ?_
      have:=xZ (ρ:=ρ) h (.cells (rep z m))
      simp only [LY] at this
      simp only [cond_true,sub,rH,EJ,iy,this]
   |_=>exact dU.fail _
 |_=>exact dU.fail _
end
section
open Go
variable {ρ:V→V} [Good ρ] {lo:Lo} {h:H} {fr:List V}
theorem Fh {v:Option V} {d y r:Nat} (e:bound v d y=some r):bound (v.map (sub ρ)) d y=some r:=by
 cases v with
 |none=>exact e
 |some v =>
  cases v with
  |int k n=>simp only [bP,sub];exact e
  |_=>simp [bound] at e
theorem uH {len cap:Nat} {a b c:Option V} {r:Nat×Nat×Nat} (e:je len cap a b c=some r):je len cap (a.map (sub ρ)) (b.map (sub ρ)) (c.map (sub ρ))=some r:=by
 have key:∀ c b:Option V,(match bound c cap cap with|some m=>(match bound b len m with|some hh=>(match bound a 0 hh with|some l=>some (l,hh,m)|none=>none)|none=>none)|none=>none)=some r→(match bound (c.map (sub ρ)) cap cap with|some m=>(match bound (b.map (sub ρ)) len m with|some hh=>(match bound (a.map (sub ρ)) 0 hh with|some l=>some (l,hh,m)|none=>none)|none=>none)|none=>none)=some r:=by
  intro c b e
  cases h1:bound c cap cap with
  |none=>rw [h1] at e;cases e
  |some m =>
   rw [h1] at e
   rw [Fh h1]
   dsimp only at e ⊢
   cases h2:bound b len m with
   |none=>rw [h2] at e;cases e
   |some hh =>
    rw [h2] at e
    rw [Fh h2]
    dsimp only at e ⊢
    cases h3:bound a 0 hh with
    |none=>rw [h3] at e;cases e
    |some l=>rw [h3] at e;rw [Fh h3];exact e
 cases c with
 |none=>exact key none b e
 |some c =>
  cases b with
  |none=>cases e
  |some b=>exact key (some c) (some b) e
theorem acY {s:List Nat} {a b c:Option V} {v:V} (e:KA s a b c=some v):KA s (a.map (sub ρ)) (b.map (sub ρ)) (c.map (sub ρ))=some (sub ρ v):=by
 cases c with
 |some c=>cases e
 |none =>
  simp only [KA,Option.map_none] at e ⊢
  cases hq:je s.length s.length a b none with
  |none=>rw [hq] at e;cases e
  |some p =>
   rw [hq] at e;cases e
   have:=uH (ρ:=ρ) hq
   simp only [Option.map_none] at this
   rw [this]
   simp only [sub]
theorem acX {a b c:Option V} {v:V} (e:Kz a b c=some v):Kz (a.map (sub ρ)) (b.map (sub ρ)) (c.map (sub ρ))=some (sub ρ v):=by
 simp only [Kz] at e ⊢
 cases hq:je 0 0 a b c with
 |none=>rw [hq] at e;cases e
 |some p=>rw [hq] at e;cases e;rw [uH hq];simp only [sub]
theorem aha (c:Option V) (m hh:Nat) (ex:Bool) (n:Nat):YC (c.map (sub ρ)) m hh ex n=YC c m hh ex n:=by cases c<;>rfl
theorem YD {sz:Nat} {xs:List V} {ex:Bool} {a b c:Option V} {v:V} (e:AO sz xs ex a b c=some v):AO sz (subs ρ xs) ex (a.map (sub ρ)) (b.map (sub ρ)) (c.map (sub ρ))=some (sub ρ v):=by
 simp only [AO,Va,iy] at e ⊢
 cases hz:AZ sz xs with
 |false=>rw [hz] at e;cases e
 |true =>
  rw [hz] at e
  simp only [cond_true] at e ⊢
  cases hq:je xs.length xs.length a b c with
  |none=>rw [hq] at e;cases e
  |some p =>
   rw [hq] at e;cases e;rw [uH hq]
   simp only [sub,aha,KJ,List.map_take,List.map_drop]
theorem acW {sz id off len:Nat} {cap:Option Nat} {sz':Nat} {a b c:Option V} {v:V} (e:Ky sz id off len cap sz' a b c=some v):Ky sz id off len cap sz' (a.map (sub ρ)) (b.map (sub ρ)) (c.map (sub ρ))=some (sub ρ v):=by
 simp only [Ky] at e ⊢
 cases hz:Nat.beq sz sz' with
 |false=>rw [hz] at e;cases e
 |true =>
  rw [hz] at e
  simp only [cond_true] at e ⊢
  cases hq:je len (cap.getD len) a b c with
  |none=>rw [hq] at e;cases e
  |some p =>
   rw [hq] at e;rw [uH hq]
   dsimp only at e ⊢
   cases hb:Nat.beq p.1 p.2.2&&!(Nat.beq p.1 0) with
   |true=>rw [hb] at e;cases e;simp only [cond_true,sub,subs]
   |false=>rw [hb] at e;cases e;cases c<;>simp only [cond_false,sub,bP,Option.map_none]
theorem agO (st:Bool) (sz:Nat) (x:aF) (a b c:Option aF):dU ρ (dh st sz x a b c fr lo h) (dh st sz (aN ρ x) (CO ρ a) (CO ρ b) (CO ρ c) (subs ρ fr) (dG ρ lo) (dH ρ h)):=by
 simp only [dh,fH,anB]
 generalize x.ev fr=X
 cases X with
 |str s=>cases st<;>first|exact dU.fail _|(simp only [sub];exact dU.iG fun v e=>acY e)
 |aj=>cases st<;>first|exact dU.fail _|(simp only [sub];exact dU.iG fun v e=>acX e)
 |list xs ex=>cases st<;>first|exact dU.fail _|(simp only [sub];exact dU.iG fun v e=>YD e)
 |hsl id off len cap sz'=>cases st<;>first|exact dU.fail _|(simp only [sub];exact dU.iG fun v e=>acW e)
 |_=>exact dU.fail _
theorem P6 (off:Nat) (x:aF):dU ρ (aK off x fr lo h) (aK off (aN ρ x) (subs ρ fr) (dG ρ lo) (dH ρ h)):=by
 simp only [aK,fH]
 generalize x.ev fr=X
 cases X with
 |bf t o=>simp only [sub];exact dU.ok _ _ _ (by simp only [sub])
 |dF t o=>simp only [sub];exact dU.ok _ _ _ (by simp only [sub])
 |gX cs=>simp only [sub];exact dU.ok _ _ _ (by simp only [sub,pF])
 |_=>exact dU.fail _
theorem Px {ag:Bool} {o:Option (List V)} {v:V} (e:mk ag o=some v):mk ag (o.map (subs ρ))=some (sub ρ v):=by rw [ayB,e];rfl
theorem agH (ag:Bool) (off sz:Nat) (x:aF):dU ρ (bU ag off sz x fr lo h) (bU ag off sz (aN ρ x) (subs ρ fr) (dG ρ lo) (dH ρ h)):=by
 simp only [bU,fH]
 generalize x.ev fr=X
 cases X with
 |agg cs=>simp only [sub,pF,oI];exact dU.iG fun v e=>Px e
 |_=>exact dU.fail _
theorem Yu (sz:Nat) (x i:aF):dU ρ (aP sz x i fr lo h) (aP sz (aN ρ x) (aN ρ i) (subs ρ fr) (dG ρ lo) (dH ρ h)):=by
 simp only [aP,fH]
 generalize x.ev fr=X
 generalize i.ev fr=I
 cases I with
 |int k n =>
  cases n with
  |negSucc n=>exact dU.fail _
  |ofNat n =>
   cases X with
   |list xs ex =>
    simp only [sub,GU]
    cases bn n xs with
    |none=>exact dU.fail _
    |some y =>
     simp only [bP,uP,iy]
     cases Nat.beq y.cells.length sz with
     |false=>exact dU.fail _
     |true=>exact dU.ok _ _ _ (by simp only [sub,cond_true])
   |hsl id off len c s =>
    simp only [sub]
    cases Nat.blt n len with
    |false=>exact dU.fail _
    |true=>exact dU.ok _ _ _ (by simp only [sub,cond_true])
   |_=>exact dU.fail _
 |_=>exact dU.fail _
theorem acL (sz n:Nat) (x i:aF):dU ρ (sJ sz n x i fr lo h) (sJ sz n (aN ρ x) (aN ρ i) (subs ρ fr) (dG ρ lo) (dH ρ h)):=by
 simp only [sJ,fH]
 generalize x.ev fr=X
 generalize i.ev fr=I
 cases I with
 |int k m =>
  cases m with
  |negSucc m=>exact dU.fail _
  |ofNat m =>
   simp only [sub]
   cases Nat.blt m n with
   |false=>exact dU.fail _
   |true =>
    simp only [cond_true]
    cases X with
    |bf t o=>simp only [sub];exact dU.ok _ _ _ (by simp only [sub])
    |dF t o=>simp only [sub];exact dU.ok _ _ _ (by simp only [sub])
    |_=>exact dU.fail _
 |_=>exact dU.fail _
theorem agI (x i:aF):dU ρ (mV x i fr lo h) (mV (aN ρ x) (aN ρ i) (subs ρ fr) (dG ρ lo) (dH ρ h)):=by
 simp only [mV,fH]
 generalize x.ev fr=X
 generalize i.ev fr=I
 cases X with
 |str s =>
  cases I with
  |int k m =>
   cases m with
   |negSucc m=>exact dU.fail _
   |ofNat m =>
    simp only [sub]
    cases JL s m with
    |none=>exact dU.fail _
    |some b=>exact dU.ok _ _ _ (by simp only [sub])
  |_=>exact dU.fail _
 |_=>exact dU.fail _
theorem acM (ag:Bool) (sz n:Nat) (x i:aF):dU ρ (kR ag sz n x i fr lo h) (kR ag sz n (aN ρ x) (aN ρ i) (subs ρ fr) (dG ρ lo) (dH ρ h)):=by
 simp only [kR,fH]
 generalize x.ev fr=X
 generalize i.ev fr=I
 cases X with
 |agg cs =>
  cases I with
  |int k m =>
   cases m with
   |negSucc m=>exact dU.fail _
   |ofNat m =>
    simp only [sub]
    cases Nat.blt m n with
    |false=>exact dU.fail _
    |true=>simp only [cond_true,pF,oI];exact dU.iG fun v e=>Px e
  |_=>exact dU.fail _
 |_=>exact dU.fail _
theorem MQ {kc:Nat} {v:V} (e:iC kc v=true):sub ρ v=v:=by
 cases v<;>first|(simp [iC] at e;done)|simp only [sub]
theorem ach {m:V} {es:List (V×V)} (e:mapOf m h=some es):mapOf (sub ρ m) (dH ρ h)=some (AX ρ es):=by
 cases m with
 |dV=>simp only [mapOf,sub] at e ⊢;cases e;rfl
 |map id=>simp only [mapOf,sub,vC] at e ⊢;rw [e];rfl
 |_=>simp [mapOf] at e
theorem Bo {k:V}:∀ {es:List (V×V)} {i:Nat} {r:Option (Nat×V)},oV h k es i=some r→oV (dH ρ h) (sub ρ k) (AX ρ es) i=some (r.map fun p=>(p.1,sub ρ p.2))
 |[],i,r,e=>by cases e;rfl
 |(k2,v)::es,i,r,e=>by
  simp only [oV,AX,List.map_cons] at e ⊢
  cases hq:eqV h k k2 with
  |none=>rw [hq] at e;cases e
  |some b =>
   rw [hq] at e
   rw [anx hq]
   dsimp only at e ⊢
   cases b with
   |true=>cases e;rfl
   |false=>exact Bo (es:=es) e
theorem acN (kc:Nat) (z:V) (ok:Bool) (m k:aF):dU ρ (kS kc z ok m k fr lo h) (kS kc (sub ρ z) ok (aN ρ m) (aN ρ k) (subs ρ fr) (dG ρ lo) (dH ρ h)):=by
 simp only [kS,fH]
 generalize m.ev fr=M
 generalize k.ev fr=K
 cases hk:iC kc K with
 |false=>exact dU.fail _
 |true =>
  have hs:=MQ (ρ:=ρ) hk
  rw [hs,hk]
  simp only [cond_true]
  cases hm:mapOf M h with
  |none=>exact dU.fail _
  |some es =>
   rw [ach hm]
   dsimp only
   cases hf:oV h K es 0 with
   |none=>exact dU.fail _
   |some r =>
    have:=Bo (ρ:=ρ) hf
    rw [hs] at this
    rw [this]
    refine dU.ok _ _ _ ?_
    cases r with
    |none=>cases ok<;>simp only [uq,Option.map_none,cond_true,cond_false,sub,subs]
    |some p=>cases ok<;>simp only [uq,bP,cond_true,cond_false,sub,subs]
theorem Kv:∀ (es:List (V×V)) (i:Nat) (v:V),Dz (AX ρ es) i (sub ρ v)=AX ρ (Dz es i v)
 |[],_,_=>rfl
 |(k,_)::es,0,v=>rfl
 |e::es,n+1,v=>by
  have:=Kv es n v
  simp only [AX,List.map_cons,Dz] at this ⊢
  rw [this]
theorem Hl (es:List (V×V)) (k v:V):AX ρ es++[(sub ρ k,sub ρ v)]=AX ρ (es++[(k,v)]):=by simp [AX]
theorem wJ (id:Nat) (es:List (V×V)):(dH ρ h).set id (.map (AX ρ es))=dH ρ (h.set id (.map es)):=ET h id (.map es)
theorem acP (kc:Nat) (m k x:aF):dU ρ (ni kc m k x fr lo h) (ni kc (aN ρ m) (aN ρ k) (aN ρ x) (subs ρ fr) (dG ρ lo) (dH ρ h)):=by
 simp only [ni,fH,FQ]
 generalize m.ev fr=M
 generalize k.ev fr=K
 generalize x.ev fr=X
 cases hk:iC kc K with
 |false=>exact dU.fail _
 |true =>
  have hs:=MQ (ρ:=ρ) hk
  rw [hs,hk]
  cases bY X with
  |true=>exact dU.fail _
  |false =>
   simp only [Bool.not_false,Bool.and_self,cond_true]
   cases M with
   |map id =>
    simp only [sub,vC]
    cases mO h id with
    |none=>exact dU.fail _
    |some es =>
     simp only [bP]
     cases hf:oV h K es 0 with
     |none=>exact dU.fail _
     |some r =>
      have:=Bo (ρ:=ρ) hf
      rw [hs] at this
      rw [this]
      cases r with
      |none =>
       refine dU.ok _ _ _ ?_
       have:=Hl (ρ:=ρ) es K X
       rw [hs] at this
       simp only [Gj,Option.map_none,this,wJ,sub]
      |some p =>
       refine dU.ok _ _ _ ?_
       simp only [Gj,bP,Kv,wJ,sub]
   |_=>exact dU.fail _
theorem acO (z:V) (m k:aF):dU ρ (Ar z m k fr lo h) (Ar (sub ρ z) (aN ρ m) (aN ρ k) (subs ρ fr) (dG ρ lo) (dH ρ h)):=by
 simp only [Ar,fH]
 generalize m.ev fr=M
 generalize k.ev fr=K
 cases M with
 |map id =>
  simp only [sub,vC]
  cases mO h id with
  |none=>exact dU.fail _
  |some es =>
   simp only [bP]
   cases hf:oV h K es 0 with
   |none=>exact dU.fail _
   |some r =>
    rw [Bo (ρ:=ρ) hf]
    cases r with
    |none =>
     refine dU.ok _ _ _ ?_
     have hl:(AX ρ es).length=es.length:=by simp [AX]
     simp only [Option.map_none,Hl,wJ,sub,subs,hl]
    |some p=>exact dU.ok _ _ _ (by simp only [bP,sub,subs])
 |_=>exact dU.fail _
theorem UD (m s x:aF):dU ρ (vN m s x fr lo h) (vN (aN ρ m) (aN ρ s) (aN ρ x) (subs ρ fr) (dG ρ lo) (dH ρ h)):=by
 simp only [vN,fH]
 generalize m.ev fr=M
 generalize s.ev fr=S
 generalize x.ev fr=X
 refine BN (ρ:=ρ) (f:=fun v=>(match M with
  |.map id=>(match S with
   |.int _ (.ofNat i)=>(match mO h id with
    |some es=>bif Nat.blt i es.length then .ok .undef lo (h.set id (.map (Dz es i v))) else .fail
    |none=>.fail)
   |_=>.fail)
  |_=>.fail)) (g:=fun v=>(match sub ρ M with
  |.map id=>(match sub ρ S with
   |.int _ (.ofNat i)=>(match mO (dH ρ h) id with
    |some es=>bif Nat.blt i es.length then .ok .undef (dG ρ lo) ((dH ρ h).set id (.map (Dz es i v))) else .fail
    |none=>.fail)
   |_=>.fail)
  |_=>.fail)) fun _=>?_
 cases M with
 |map id =>
  cases S with
  |int k n =>
   cases n with
   |negSucc n=>exact dU.fail _
   |ofNat n =>
    simp only [sub,vC]
    cases mO h id with
    |none=>exact dU.fail _
    |some es =>
     have hl:(AX ρ es).length=es.length:=by simp [AX]
     simp only [bP,hl]
     cases Nat.blt n es.length with
     |false=>exact dU.fail _
     |true=>exact dU.ok _ _ _ (by simp only [cond_true,Kv,wJ,sub])
  |_=>exact dU.fail _
 |_=>exact dU.fail _
theorem Yt (i:Nat) (x:aF):dU ρ (aX i x fr lo h) (aX i (aN ρ x) (subs ρ fr) (dG ρ lo) (dH ρ h)):=by
 simp only [aX,fH]
 generalize x.ev fr=X
 cases X with
 |tuple vs=>simp only [sub,GU];exact dU.iG fun v e=>by rw [e];rfl
 |_=>exact dU.fail _
theorem MX {cls:Nat} {v:V} {n:Nat} (e:lenOf h cls v=some n):lenOf (dH ρ h) cls (sub ρ v)=some n:=by
 match cls with
 |0=>cases v<;>first|(simp [lenOf] at e;done)|(simp only [lenOf,sub,iy] at e ⊢;exact e)
 |1=>cases v<;>first|(simp [lenOf] at e;done)|(simp only [lenOf,sub] at e ⊢;exact e)
 |2 =>
  cases v with
  |dV=>simp only [lenOf,sub] at e ⊢;exact e
  |map id =>
   simp only [lenOf,sub,vC] at e ⊢
   cases hg:mO h id with
   |none=>rw [hg] at e;cases e
   |some es=>rw [hg] at e;cases e;simp [AX]
  |_=>simp [lenOf] at e
 |n+3=>cases e
theorem azf (cls:Nat) (x:aF):dU ρ (eP cls x fr lo h) (eP cls (aN ρ x) (subs ρ fr) (dG ρ lo) (dH ρ h)):=by
 simp only [eP,fH]
 cases he:lenOf h cls (x.ev fr) with
 |none=>exact dU.fail _
 |some n=>rw [MX he];exact dU.ok _ _ _ (by simp only [sub])
theorem aze (x:aF):dU ρ (xQ x fr lo h) (xQ (aN ρ x) (subs ρ fr) (dG ρ lo) (dH ρ h)):=by
 simp only [xQ,fH]
 generalize x.ev fr=X
 cases X with
 |aj=>exact dU.ok _ _ _ (by simp only [sub])
 |list xs ex=>cases ex<;>first|exact dU.fail _|exact dU.ok _ _ _ (by simp only [sub,iy,cond_true])
 |hsl a b c d e=>cases d<;>first|exact dU.fail _|exact dU.ok _ _ _ (by simp only [sub])
 |_=>exact dU.fail _
theorem azh (x y:aF):dU ρ (vO x y fr lo h) (vO (aN ρ x) (aN ρ y) (subs ρ fr) (dG ρ lo) (dH ρ h)):=by
 simp only [vO,fH]
 generalize x.ev fr=X
 generalize y.ev fr=Y
 cases X with
 |int k n=>cases Y<;>first|exact dU.fail _|exact dU.ok _ _ _ (by simp only [sub])
 |_=>exact dU.fail _
theorem azi (x y:aF):dU ρ (vP x y fr lo h) (vP (aN ρ x) (aN ρ y) (subs ρ fr) (dG ρ lo) (dH ρ h)):=by
 simp only [vP,fH]
 generalize x.ev fr=X
 generalize y.ev fr=Y
 cases X with
 |int k n=>cases Y<;>first|exact dU.fail _|exact dU.ok _ _ _ (by simp only [sub])
 |_=>exact dU.fail _
theorem NJ {v:V} {n:Nat} (e:gU v=some n):gU (sub ρ v)=some n:=by
 cases v<;>first|(simp [gU] at e;done)|(simp only [gU,sub,iy] at e ⊢;exact e)
theorem qJ {sz n:Nat} {v:V} {cs:List V} (e:dM h sz n v=some cs):dM (dH ρ h) sz n (sub ρ v)=some (subs ρ cs):=by
 cases v with
 |aj =>
  simp only [dM,sub] at e ⊢
  cases hb:Nat.beq n 0 with
  |false=>rw [hb] at e;cases e
  |true=>rw [hb] at e;cases e;simp only [cond_true,subs]
 |list xs ex =>
  simp only [dM,sub,Va,iy] at e ⊢
  cases hb:AZ sz xs&&Nat.ble n xs.length with
  |false=>rw [hb] at e;cases e
  |true=>rw [hb] at e;simp only [cond_true] at e ⊢;rw [Bv,oI,e];rfl
 |hsl id off len c s =>
  simp only [dM,sub,ku,NS] at e ⊢
  cases hb:Nat.beq sz s&&Nat.ble n len with
  |false=>rw [hb] at e;cases e
  |true=>rw [hb] at e;simp only [cond_true] at e ⊢;rw [e];rfl
 |str s =>
  simp only [dM,sub] at e ⊢
  cases hb:Nat.beq sz 1 with
  |false=>rw [hb] at e;cases e
  |true =>
   rw [hb] at e;simp only [cond_true] at e ⊢
   have:=oI (ρ:=ρ) n (ofBytes s)
   rw [Am,e] at this
   rw [e,this];rfl
 |_=>simp [dM] at e
theorem afi {v:V} (e:jg v=true):jg (sub ρ v)=true:=by
 cases v<;>first|(simp [jg] at e;done)|simp only [sub,jg]
def Qj (ρ:V→V) (p:V×H):V×H:=(sub ρ p.1,dH ρ p.2)
theorem NQ (cs:List V):(dH ρ h).new (.cells (subs ρ cs))=dH ρ (h.new (.cells cs)):=xZ h (.cells cs)
theorem Gi (id:Nat) (cs:List V):(dH ρ h).set id (.cells (subs ρ cs))=dH ρ (h.set id (.cells cs)):=ET h id (.cells cs)
theorem uf {h:H} {n sz:Nat} {old:Option (List V)} {new:List V} {p:V×H} (e:jA h n sz old new=some p):jA (dH ρ h) n sz (old.map (subs ρ)) (subs ρ new)=some (Qj ρ p):=by
 cases old with
 |none=>cases e
 |some old =>
  simp only [jA,bP] at e ⊢
  cases hb:Nat.ble n 16777216 with
  |false=>rw [hb] at e;cases e
  |true=>rw [hb] at e;cases e;simp only [cond_true,Qj,sub,rH,←qm,NQ]
theorem adL {sz:Nat} {s:V} {n:Nat} {new:List V} {p:V×H} (e:wM h sz s n new=some p):wM (dH ρ h) sz (sub ρ s) n (subs ρ new)=some (Qj ρ p):=by
 simp only [wM] at e ⊢
 cases hn:Nat.beq n 0 with
 |true =>
  rw [hn] at e
  simp only [cond_true] at e ⊢
  cases hs:jg s with
  |false=>rw [hs] at e;cases e
  |true=>rw [hs] at e;rw [afi hs];cases e;rfl
 |false =>
  rw [hn] at e
  simp only [cond_false] at e ⊢
  cases s with
  |aj =>
   simp only [sub] at e ⊢
   have:=uf (ρ:=ρ) e
   simp only [bP,subs] at this
   exact this
  |list xs ex =>
   simp only [sub,iy] at e ⊢
   cases ex with
   |false=>cases e
   |true =>
    simp only [cond_true] at e ⊢
    cases hq:dM h sz xs.length (.list xs true) with
    |none=>rw [hq] at e;cases e
    |some cs =>
     rw [hq] at e
     have h2:=qJ (ρ:=ρ) hq
     simp only [sub] at h2
     rw [h2]
     exact uf e
  |hsl id off len cap sz' =>
   simp only [sub] at e ⊢
   cases hb:Nat.beq sz sz' with
   |false=>rw [hb] at e;cases e
   |true =>
    rw [hb] at e
    simp only [cond_true] at e ⊢
    cases cap with
    |some c =>
     simp only [zO] at e ⊢
     cases hc:Nat.ble (len+n) c with
     |true =>
      rw [hc] at e
      simp only [cond_true,Y7,ku] at e ⊢
      cases hg:getCells h id with
      |none=>rw [hg] at e;cases e
      |some cs =>
       rw [hg] at e
       simp only [bP,pY] at e ⊢
       cases hs:splice (off+len*sz) cs new with
       |none=>rw [hs] at e;cases e
       |some c2=>rw [hs] at e;cases e;simp only [bP,Qj,sub,Gi]
     |false =>
      rw [hc] at e
      simp only [cond_false] at e ⊢
      cases hq:dM h sz len (.hsl id off len (some c) sz') with
      |none=>rw [hq] at e;cases e
      |some cs =>
       rw [hq] at e
       have h2:=qJ (ρ:=ρ) hq
       simp only [sub] at h2
       rw [h2]
       exact uf e
    |none =>
     simp only [zO] at e ⊢
     cases ho:Nat.beq off 0 with
     |false=>rw [ho] at e;cases e
     |true =>
      rw [ho] at e
      simp only [cond_true] at e ⊢
      cases hq:dM h sz len (.hsl id off len none sz') with
      |none=>rw [hq] at e;cases e
      |some cs =>
       rw [hq] at e
       have h2:=qJ (ρ:=ρ) hq
       simp only [sub] at h2
       rw [h2,ER]
       exact uf e
  |_=>cases e
theorem ND (sz:Nat) (x y:aF):dU ρ (aU sz x y fr lo h) (aU sz (aN ρ x) (aN ρ y) (subs ρ fr) (dG ρ lo) (dH ρ h)):=by
 simp only [aU,fH]
 cases hl:gU (y.ev fr) with
 |none=>exact dU.fail _
 |some n =>
  rw [NJ hl]
  dsimp only
  cases hs:dM h sz n (y.ev fr) with
  |none=>exact dU.fail _
  |some new =>
   rw [qJ hs]
   simp only [Aq]
   cases dO new with
   |false=>exact dU.fail _
   |true =>
    simp only [cond_true]
    cases ha:wM h sz (x.ev fr) n new with
    |none=>exact dU.fail _
    |some p=>rw [adL ha];exact dU.ok _ _ _ rfl
theorem Yq (z:List V) (x n:aF):dU ρ (kH z x n fr lo h) (kH (subs ρ z) (aN ρ x) (aN ρ n) (subs ρ fr) (dG ρ lo) (dH ρ h)):=by
 simp only [kH,fH]
 generalize x.ev fr=X
 generalize n.ev fr=N
 cases N with
 |int k m =>
  cases m with
  |negSucc m=>exact dU.fail _
  |ofNat m =>
   simp only [sub]
   cases eqK k .i64&&Nat.ble m 16777216&&Nat.blt 0 m with
   |false=>exact dU.fail _
   |true =>
    simp only [cond_true]
    cases X with
    |aj=>simp only [sub];exact dU.ok _ _ _ (by simp only [sub,rH,EJ,iy,NQ])
    |_=>exact dU.fail _
 |_=>exact dU.fail _
theorem acK (sz:Nat) (x y:V) (n:Nat):dU ρ (wO sz x y n lo h) (wO sz (sub ρ x) (sub ρ y) n (dG ρ lo) (dH ρ h)):=by
 have other:∀ Z:V,dU ρ (bif Nat.beq n 0 then .ok (.int .i64 0) lo h else .fail) (bif Nat.beq n 0 then .ok (.int .i64 0) (dG ρ lo) (dH ρ h) else .fail):=by
  intro _
  cases Nat.beq n 0 with
  |false=>exact dU.fail _
  |true=>exact dU.ok _ _ _ (by simp only [cond_true,sub])
 cases x with
 |hsl id off len c sz' =>
  simp only [wO,sub,ku]
  cases Nat.beq sz sz' with
  |false=>exact dU.fail _
  |true =>
   simp only [cond_true]
   cases hs:dM h sz n y with
   |none=>exact dU.fail _
   |some new =>
    rw [qJ hs]
    dsimp only
    cases getCells h id with
    |none=>exact dU.fail _
    |some cs =>
     simp only [bP,Aq,pY]
     cases dO new with
     |false=>exact dU.fail _
     |true =>
      simp only [cond_true]
      cases splice off cs new with
      |none=>exact dU.fail _
      |some c2=>exact dU.ok _ _ _ (by simp only [bP,sub,Gi])
 |iface t w =>
  simp only [wO,jr]
  cases Nat.beq t 1000000 with
  |false=>exact other .undef
  |true =>
   simp only [cond_true]
   rcases jd (ρ:=ρ) w with ⟨b,h⟩|⟨k,n,h⟩|⟨s,h⟩|h|⟨xs,e,h⟩<;>rw [h]<;>exact other .undef
 |_=>simp only [wO,sub];exact other .undef
theorem apk (sz:Nat) (x y:aF):dU ρ (qF sz x y fr lo h) (qF sz (aN ρ x) (aN ρ y) (subs ρ fr) (dG ρ lo) (dH ρ h)):=by
 simp only [qF,fH]
 cases hl:gU (y.ev fr) with
 |none=>exact dU.fail _
 |some n =>
  rw [NJ hl]
  dsimp only
  cases hm:lenOf h 0 (x.ev fr) with
  |none=>exact dU.fail _
  |some m=>rw [MX hm];exact acK _ _ _ _
theorem agG (z:List V) (x:aF):dU ρ (qE z x fr lo h) (qE (subs ρ z) (aN ρ x) (subs ρ fr) (dG ρ lo) (dH ρ h)):=by
 simp only [qE,fH]
 generalize x.ev fr=X
 cases X with
 |aj=>exact dU.ok _ _ _ (by simp only [sub])
 |list xs ex =>
  cases xs with
  |nil=>exact dU.ok _ _ _ (by simp only [sub,subs])
  |cons y ys=>exact dU.fail _
 |hsl id off len c s =>
  simp only [sub,Aq,ku]
  cases dO z with
  |false=>exact dU.fail _
  |true =>
   simp only [cond_true]
   cases getCells h id with
   |none=>exact dU.fail _
   |some cs =>
    simp only [bP,EJ,pY]
    cases splice off cs (rep z len) with
    |none=>exact dU.fail _
    |some c2=>exact dU.ok _ _ _ (by simp only [bP,sub,Gi])
 |_=>exact dU.fail _
theorem agM (x y:aF):dU ρ (pI x y fr lo h) (pI (aN ρ x) (aN ρ y) (subs ρ fr) (dG ρ lo) (dH ρ h)):=by
 simp only [pI,fH]
 generalize x.ev fr=X
 generalize y.ev fr=Y
 cases X with
 |dF a o =>
  cases Y with
  |dF b p =>
   simp only [sub]
   cases Nat.beq a b with
   |true=>exact dU.fail _
   |false=>exact dU.ok _ _ _ (by simp only [cond_false,sub])
  |_=>exact dU.fail _
 |_=>exact dU.fail _
def Ho (ρ:V→V) (r:List V×H):List V×H:=(subs ρ r.1,dH ρ r.2)
theorem aeH (v:V) (r:List V×H):lM (sub ρ v) (Ho ρ r)=Ho ρ (lM v r):=by simp only [lM,Ho,subs]
theorem zY:∀ (n:Nat) (vs:List V) (h:H),dW n (subs ρ vs) (dH ρ h)=Ho ρ (dW n vs h)
 |0,vs,h=>by simp only [dW,Ho]
 |n+1,[],h=>by simp only [subs,dW,Ho]
 |n+1,v::vs,h=>by
  have dflt:∀ (w:V) (h:H),lM (sub ρ w) (dW n (subs ρ vs) (dH ρ h))=Ho ρ (lM w (dW n vs h)):=by
   intro w h;rw [zY n vs h,aeH]
  cases v with
  |hsl id off len cap sz =>
   simp only [subs,sub,dW,ES]
   have d:=dflt (.hsl id off len cap sz) h
   simp only [sub] at d
   cases h.get id with
   |none=>exact d
   |some o =>
    cases o with
    |cells cs =>
     simp only [bP,LY,pF,FB]
     cases chunk sz len (skip off cs) with
     |none=>exact d
     |some xs =>
      simp only [bP,ER,zY n xs]
      cases cap with
     |none =>
      have d2:=dflt (.list (dW n xs (h.del id)).1 false) (dW n xs (h.del id)).2
      simp only [sub] at d2
      exact d2
     |some c =>
      have d2:=dflt (.list (dW n xs (h.del id)).1 (Nat.beq c len)) (dW n xs (h.del id)).2
      simp only [sub] at d2
      exact d2
    |map es=>exact d
    |loop l=>exact d
  |agg cs =>
   simp only [subs,sub,dW,zY n cs]
   have d2:=dflt (.agg (dW n cs h).1) (dW n cs h).2
   simp only [sub] at d2
   exact d2
  |tuple cs =>
   simp only [subs,sub,dW,zY n cs]
   have d2:=dflt (.tuple (dW n cs h).1) (dW n cs h).2
   simp only [sub] at d2
   exact d2
  |iface t w =>
   have d:=dflt (.iface t w) h
   simp only [subs,dW,jr] at d ⊢
   cases hb:Nat.beq t 1000000 with
   |false=>rw [hb] at d;exact d
   |true =>
    rw [hb] at d
    simp only [cond_true] at d ⊢
    rcases jd (ρ:=ρ) w with ⟨b,h⟩|⟨k,n,h⟩|⟨s,h⟩|h|⟨xs,e,h⟩<;>rw [h] at d ⊢<;>exact d
  |undef=>have d:=dflt .undef h;simp only [subs,sub,dW] at d ⊢;exact d
  |bool b=>have d:=dflt (.bool b) h;simp only [subs,sub,dW] at d ⊢;exact d
  |int k b=>have d:=dflt (.int k b) h;simp only [subs,sub,dW] at d ⊢;exact d
  |str b=>have d:=dflt (.str b) h;simp only [subs,sub,dW] at d ⊢;exact d
  |nilPtr=>have d:=dflt .nilPtr h;simp only [subs,sub,dW] at d ⊢;exact d
  |bf a b=>have d:=dflt (.bf a b) h;simp only [subs,sub,dW] at d ⊢;exact d
  |dF a b=>have d:=dflt (.dF a b) h;simp only [subs,sub,dW] at d ⊢;exact d
  |gX b=>have d:=dflt (.gX b) h;simp only [subs,sub,dW] at d ⊢;exact d
  |aj=>have d:=dflt .aj h;simp only [subs,sub,dW] at d ⊢;exact d
  |list a b=>have d:=dflt (.list a b) h;simp only [subs,sub,dW] at d ⊢;exact d
  |dV=>have d:=dflt .dV h;simp only [subs,sub,dW] at d ⊢;exact d
  |map b=>have d:=dflt (.map b) h;simp only [subs,sub,dW] at d ⊢;exact d
  |nilFunc=>have d:=dflt .nilFunc h;simp only [subs,sub,dW] at d ⊢;exact d
  |func a b c=>have d:=dflt (.func a b c) h;simp only [subs,sub,dW] at d ⊢;exact d
  |nilIface=>have d:=dflt .nilIface h;simp only [subs,sub,dW] at d ⊢;exact d
theorem OJ (v:V) (h:H):vW (sub ρ v) (dH ρ h)=Qj ρ (vW v h):=by
 have:=zY (ρ:=ρ) 1000000 [v] h
 simp only [subs] at this
 simp only [vW,this,Ho]
 cases dW 1000000 [v] h with
 |mk l h2=>cases l<;>simp only [subs,Qj]
theorem UE (z:List V) (l c:aF):dU ρ (jG z l c fr lo h) (jG (subs ρ z) (aN ρ l) (aN ρ c) (subs ρ fr) (dG ρ lo) (dH ρ h)):=by
 have hm:=Kt (ρ:=ρ) (fr:=fr) (lo:=lo) (h:=h) z l c
 simp only [jG]
 cases hq:gW z l c fr lo h with
 |fail=>exact dU.fail _
 |ok v lo2 h2 =>
  rw [hq] at hm
  rw [hm (by intro h;cases h)]
  simp only [Qk,OJ,Qj]
  exact dU.ok _ _ _ rfl
theorem Yp (sz:Nat) (x y:aF):dU ρ (kG sz x y fr lo h) (kG sz (aN ρ x) (aN ρ y) (subs ρ fr) (dG ρ lo) (dH ρ h)):=by
 have hm:=ND (ρ:=ρ) (fr:=fr) (lo:=lo) (h:=h) sz x y
 simp only [kG]
 cases hq:aU sz x y fr lo h with
 |fail=>exact dU.fail _
 |ok v lo2 h2 =>
  rw [hq] at hm
  rw [hm (by intro h;cases h)]
  simp only [Qk,OJ,Qj]
  exact dU.ok _ _ _ rfl
theorem Z4 (d:Nat) (o:l7):dU ρ (aZ d o fr lo h) (aZ d (gQ ρ o) (subs ρ fr) (dG ρ lo) (dH ρ h)):=by
 cases o with
 |mv x=>exact aCY x
 |pick c a b=>exact apl c a b
 |alloc z=>exact agE (fr:=fr) d z
 |bM z=>exact acJ (fr:=fr) z
 |yA x=>exact apj d x
 |BR x=>exact aph x
 |build z ps=>exact agF z ps
 |lit z a b ps=>exact azg z a b ps
 |mF a=>exact agJ a
 |nR n a=>exact agK n a
 |store n a x=>exact agP n a x
 |ji x=>exact agN x
 |eq n c x y=>exact aCX n c x y
 |bin op x y=>exact azd op x y
 |not x=>exact azk x
 |neg x=>exact azj x
 |iF k x=>exact Yr k x
 |vS x=>exact agQ x
 |zK x=>exact apm x
 |jV x=>exact Yx x
 |toStr x=>exact agR x
 |gY t x=>exact Yv t x
 |bJ f a b=>exact acQ f a b
 |mkMap=>exact agL (fr:=fr)
 |mkSlice z l c=>exact Kt z l c
 |slice s n x l h m=>exact agO s n x l h m
 |fieldAddr o x=>exact P6 o x
 |field a o n x=>exact agH a o n x
 |aV n x i=>exact Yu n x i
 |qZ s n x i=>exact acL s n x i
 |index x i=>exact agI x i
 |oM a s n x i=>exact acM a s n x i
 |lookup kc z ok m k=>exact acN kc z ok m k
 |bV kc m k x=>exact acP kc m k x
 |wU z m k=>exact acO z m k
 |oU m s x=>exact UD m s x
 |extract i x=>exact Yt i x
 |len c x=>exact azf c x
 |cap x=>exact aze x
 |max x y=>exact azh x y
 |min x y=>exact azi x y
 |append n x y=>exact ND n x y
 |lI z x n=>exact Yq z x n
 |copy n x y=>exact apk n x y
 |clear z x=>exact agG z x
 |nS x y=>exact agM x y
 |kQ z l c=>exact UE z l c
 |mG n x y=>exact Yp n x y
 |recover=>exact dU.ok _ _ _ (by simp only [sub];rfl)
 |bad=>exact dU.fail _
end
section
open Go
variable {ρ:V→V} [Good ρ] {lo:Lo} {h:H} {fr:List V}
def DF (ρ:V→V):Cmd→Cmd
 |.code c=>.code (jY ρ c)
 |.ops l=>.ops (tZ ρ l)
 |.draws l=>.draws (tZ ρ l)
 |.call f as=>.call f (subs ρ as)
 |.app f as=>.app (sub ρ f) (subs ρ as)
 |.scope c r=>.scope (jY ρ c) (jY ρ r)
def nN (ρ:V→V):Out→Out
 |.fail=>.fail
 |.norm fr lo h=>.norm (subs ρ fr) (dG ρ lo) (dH ρ h)
 |.jump j fr lo h=>.jump j (subs ρ fr) (dG ρ lo) (dH ρ h)
 |.val v h=>.val (sub ρ v) (dH ρ h)
def jI (ρ:V→V) (a b:Out):Prop:=a≠.fail→b=nN ρ a
theorem jI.fail (b:Out):jI ρ .fail b:=fun h=>absurd rfl h
theorem jI.rfl' (a:Out) {b:Out} (h:b=nN ρ a):jI ρ a b:=fun _=>h
structure nV (ρ:V→V) (ih ih':Ih):Prop where
 go:∀ c fr lo h,jI ρ (ih c fr lo h) (ih' (DF ρ c) (subs ρ fr) (dG ρ lo) (dH ρ h))
variable {ih ih':Ih}
theorem wR:∀ (c:aH) (l:Nat),findLabel (jY ρ c) l=(findLabel c l).map (jY ρ)
 |.seq a b,l=>by
  simp only [jY,findLabel,wR a l,wR b l]
  cases findLabel a l with
  |some r=>simp only [bP,jY]
  |none=>simp only [Option.map_none]
 |.label l',l=>by
  simp only [jY,findLabel]
  cases Nat.beq l' l<;>simp [jY]
 |.skip,l=>by simp only [jY,findLabel,Option.map_none]
 |.region _,l=>by simp only [jY,findLabel,Option.map_none]
 |.draw _,l=>by simp only [jY,findLabel,Option.map_none]
 |.cond _ _ _,l=>by simp only [jY,findLabel,Option.map_none]
 |.block _ _,l=>by simp only [jY,findLabel,Option.map_none]
 |.loop _,l=>by simp only [jY,findLabel,Option.map_none]
 |.rangeFunc _ _ _ _,l=>by simp only [jY,findLabel,Option.map_none]
 |.exit _,l=>by simp only [jY,findLabel,Option.map_none]
 |.scope _,l=>by simp only [jY,findLabel,Option.map_none]
 |.goto _,l=>by simp only [jY,findLabel,Option.map_none]
 |.ret,l=>by simp only [jY,findLabel,Option.map_none]
theorem MP (hi:nV ρ ih ih') (b:aH) {o o':Out} (ho:jI ρ o o'):jI ρ (vI ih b o) (vI ih' (jY ρ b) o'):=by
 cases o with
 |fail=>exact jI.fail _
 |norm fr lo h=>rw [ho (by intro h;cases h)];exact hi.go (.code b) fr lo h
 |jump j fr lo h=>rw [ho (by intro h;cases h)];exact jI.rfl' _ rfl
 |val v h=>exact jI.fail _
theorem Xx (id:Nat) {o o':Out} (ho:jI ρ o o'):jI ρ (mP id o) (mP id o'):=by
 cases o with
 |fail=>exact jI.fail _
 |norm fr lo h=>rw [ho (by intro h;cases h)];exact jI.rfl' _ rfl
 |jump j fr lo h =>
  rw [ho (by intro h;cases h)]
  cases j with
  |exit i=>simp only [mP,nN];cases Nat.beq i id<;>exact jI.rfl' _ rfl
  |_=>exact jI.rfl' _ rfl
 |val v h=>rw [ho (by intro h;cases h)];exact jI.rfl' _ rfl
theorem XD (hi:nV ρ ih ih') (c:aH) {o o':Out} (ho:jI ρ o o'):jI ρ (pO ih c o) (pO ih' (jY ρ c) o'):=by
 cases o with
 |fail=>exact jI.fail _
 |norm fr lo h=>rw [ho (by intro h;cases h)];exact jI.rfl' _ rfl
 |jump j fr lo h =>
  rw [ho (by intro h;cases h)]
  cases j with
  |goto l =>
   simp only [pO,nN,wR]
   cases findLabel c l with
   |none=>exact jI.rfl' _ rfl
   |some r=>exact hi.go (.scope c r) fr lo h
  |_=>exact jI.rfl' _ rfl
 |val v h=>rw [ho (by intro h;cases h)];exact jI.rfl' _ rfl
theorem XA (l:Nat) {fr:List V} {lo:Lo} {o o':Out} (ho:jI ρ o o'):jI ρ (Dp l fr lo o) (Dp l (subs ρ fr) (dG ρ lo) o'):=by
 cases o with
 |val v h =>
  rw [ho (by intro h;cases h)]
  simp only [Dp,nN,sD]
  cases getLoop h l with
  |none=>exact jI.fail _
  |some lp =>
   simp only [bP,Qi]
   cases Nat.beq lp.st 1 with
   |true=>exact jI.fail _
   |false =>
    simp only [cond_false]
    cases lp.pending with
    |none=>exact jI.rfl' _ (by simp only [ER,nN])
    |some j=>exact jI.rfl' _ (by simp only [ER,nN])
 |_=>exact jI.fail _
theorem BH:∀ l:List V,nT (subs ρ l)=subs ρ (nT l)
 |[]=>by simp [nT,subs]
 |v::l=>by
  cases v with
  |iface t w =>
   simp only [subs,nT,jr]
   cases Nat.beq t 1000000 with
   |false=>simp only [cond_false,BH l]
   |true =>
    simp only [cond_true]
    rcases jd (ρ:=ρ) w with ⟨b,h⟩|⟨k,n,h⟩|⟨s,h⟩|h|⟨xs,e,h⟩<;>rw [h]<;>simp only [BH l]
  |_=>simp only [subs,sub,nT,BH l]
theorem xG (t:Nat):∀ l:List V,dI t (subs ρ l)=subs ρ (dI t l)
 |[]=>by simp [dI,subs]
 |v::l=>by
  cases v with
  |iface q w =>
   simp only [subs,dI,jr]
   cases Nat.beq q 1000000 with
   |false=>simp only [cond_false,xG t l]
   |true =>
    simp only [cond_true]
    rcases jd (ρ:=ρ) w with ⟨b,h⟩|⟨k,n,h⟩|⟨s,h⟩|h|⟨xs,e,h⟩<;>rw [h]<;>simp only [xG t l]
  |bf u o =>
   simp only [subs,sub,dI,xG t l]
   cases Nat.beq u t<;>simp [sub]
  |_=>simp only [subs,sub,dI,xG t l]
theorem U4 (hi:nV ρ ih ih') (f:aF) (ps:List Nat) (a b:aH):jI ρ (uI ih f ps a b fr lo h) (uI ih' (aN ρ f) ps (jY ρ a) (jY ρ b) (subs ρ fr) (dG ρ lo) (dH ρ h)):=by
 simp only [uI,fH]
 generalize f.ev fr=F
 cases F with
 |func fn first caps =>
  cases fn with
  |func q =>
   simp only [sub,rH]
   have h1:=hi.go (.call q (first++(.func (.yield h.next) [] []::caps))) [] [] (h.new (.loop ⟨0,none,nT fr,ps,a,b⟩))
   have h2:=xZ (ρ:=ρ) h (.loop ⟨0,none,nT fr,ps,a,b⟩)
   simp only [LY,Qi,←BH] at h2
   rw [←h2] at h1
   simp only [DF,qm,subs,sub] at h1
   exact XA _ h1
  |_=>exact jI.fail _
 |_=>exact jI.fail _
theorem abQ (hi:nV ρ ih ih') (c:V) (a b:aH):jI ρ (Em ih c a b fr lo h) (Em ih' (sub ρ c) (jY ρ a) (jY ρ b) (subs ρ fr) (dG ρ lo) (dH ρ h)):=by
 cases c with
 |bool t =>
  simp only [Em,sub]
  cases t with
  |true=>exact hi.go (.code a) fr lo h
  |false=>exact hi.go (.code b) fr lo h
 |_=>exact jI.fail _
theorem YK (hi:nV ρ ih ih') (c:aH):jI ρ (dA ih c fr lo h) (dA ih' (jY ρ c) (subs ρ fr) (dG ρ lo) (dH ρ h)):=by
 cases c with
 |skip=>exact jI.rfl' _ rfl
 |label l=>exact jI.rfl' _ rfl
 |region l=>exact hi.go (.ops l) fr lo h
 |draw l=>exact hi.go (.draws l) fr lo h
 |seq a b=>exact MP hi b (hi.go (.code a) fr lo h)
 |cond c a b=>simp only [jY,dA,fH];exact abQ hi _ a b
 |block id c=>exact Xx id (hi.go (.code c) fr lo h)
 |loop c=>exact MP hi (.loop c) (hi.go (.code c) fr lo h)
 |exit id=>exact jI.rfl' _ rfl
 |goto l=>exact jI.rfl' _ rfl
 |ret=>exact jI.rfl' _ rfl
 |scope c=>exact hi.go (.scope c c) fr lo h
 |rangeFunc f ps a b=>exact U4 hi f ps a b
theorem J7 (d:Option Nat) (v:V):eF (subs ρ fr) d (sub ρ v)=subs ρ (eF fr d v):=by
 cases d with
 |none=>rfl
 |some t=>simp only [eF,Ey]
theorem SG (hi:nV ρ ih ih') (os:List Ins) (d:Option Nat) {o o':OR} (ho:dU ρ o o'):jI ρ (FU ih os fr d o) (FU ih' (tZ ρ os) (subs ρ fr) d o'):=by
 cases o with
 |fail=>exact jI.fail _
 |ok v lo h =>
  rw [ho (by intro h;cases h)]
  simp only [FU,Qk,J7]
  exact hi.go (.ops os) _ lo h
theorem Xv (hi:nV ρ ih ih') (os:List Ins) (d:Nat) {o o':OR} (ho:dU ρ o o'):jI ρ (FT ih os fr d o) (FT ih' (tZ ρ os) (subs ρ fr) d o'):=by
 cases o with
 |fail=>exact jI.fail _
 |ok v lo h =>
  rw [ho (by intro h;cases h)]
  simp only [FT,Qk,xG,Ey]
  exact hi.go (.ops os) _ lo h
theorem SN (hi:nV ρ ih ih') (os:List Ins) {lo:Lo} (d:Option Nat) {o o':Out} (ho:jI ρ o o'):jI ρ (LH ih os fr lo d o) (LH ih' (tZ ρ os) (subs ρ fr) (dG ρ lo) d o'):=by
 cases o with
 |val v h =>
  rw [ho (by intro h;cases h)]
  simp only [LH,nN,J7]
  exact hi.go (.ops os) _ lo h
 |_=>exact jI.fail _
theorem GI (o:l7):bF (gQ ρ o)=bF o:=by cases o<;>rfl
theorem abo (ids:List Nat) (v:V):Ee ids (sub ρ v)=Ee ids v:=by
 cases v with
 |iface t w =>
  simp only [jr,Ee]
  cases Nat.beq t 1000000 with
  |false=>rfl
  |true =>
   simp only [cond_true]
   rcases jd (ρ:=ρ) w with ⟨b,h⟩|⟨k,n,h⟩|⟨s,h⟩|h|⟨xs,e,h⟩<;>rw [h]
 |_=>simp only [sub,Ee]
theorem EO (hi:nV ρ ih ih') (os:List Ins) (i:Ins):jI ρ (qK ih os i fr lo h) (qK ih' (tZ ρ os) (yc ρ i) (subs ρ fr) (dG ρ lo) (dH ρ h)):=by
 cases i with
 |op d o =>
  cases d with
  |some t =>
   simp only [qK,yc,GI]
   cases bF o with
   |true=>exact Xv hi os t (Z4 t o)
   |false=>exact SG hi os (some t) (Z4 t o)
  |none =>
   simp only [qK,yc,GI]
   cases bF o with
   |true=>exact jI.fail _
   |false=>exact SG hi os none (Z4 0 o)
 |call d f as =>
  simp only [qK,yc,Ik,qU]
  cases iD (aF.evs as fr) with
  |true=>exact jI.fail _
  |false=>exact SN hi os d (hi.go (.call f (aF.evs as fr)) [] [] h)
 |dyn d f as =>
  simp only [qK,yc,Ik,qU,fH]
  cases iD (aF.evs as fr) with
  |true=>exact jI.fail _
  |false=>exact SN hi os d (hi.go (.app (f.ev fr) (aF.evs as fr)) [] [] h)
 |defer ids f as =>
  simp only [qK,yc,fH,abo]
  cases Ee ids (f.ev fr) with
  |true=>exact hi.go (.ops os) fr lo h
  |false=>exact jI.fail _
 |grd t b d i=>exact jI.fail _
 |chk g t o=>exact jI.fail _
theorem Iw:sub ρ (.tuple [])=.tuple []:=by simp only [sub,subs]
theorem adb (hi:nV ρ ih ih') (os:List Ins) (t:Nat) (b:Bool) (d:Option Nat) (i:Ins):jI ρ (qP ih os t b d i fr lo h) (qP ih' (tZ ρ os) t b d (yc ρ i) (subs ρ fr) (dG ρ lo) (dH ρ h)):=by
 have skip:jI ρ (ih (.ops os) (eF fr d (.tuple [])) lo h) (ih' (.ops (tZ ρ os)) (eF (subs ρ fr) d (.tuple [])) (dG ρ lo) (dH ρ h)):=by
  have:=hi.go (.ops os) (eF fr d (.tuple [])) lo h
  rw [←J7,Iw] at this
  exact this
 simp only [qP,sG]
 generalize aO fr t=X
 cases X with
 |bool c =>
  simp only [sub]
  cases (bif b then c else !c) with
  |true=>exact EO hi os i
  |false=>exact skip
 |tuple vs =>
  cases vs with
  |nil=>simp only [Iw];exact skip
  |cons v vs=>exact jI.fail _
 |_=>exact jI.fail _
theorem NP (hi:nV ρ ih ih') (os:List Ins) (i:Ins):jI ρ (jQ ih os i fr lo h) (jQ ih' (tZ ρ os) (yc ρ i) (subs ρ fr) (dG ρ lo) (dH ρ h)):=by
 cases i with
 |grd t b d i=>exact adb hi os t b d i
 |op d o=>exact EO hi os (.op d o)
 |call d f as=>exact EO hi os (.call d f as)
 |dyn d f as=>exact EO hi os (.dyn d f as)
 |defer ids f as=>exact EO hi os (.defer ids f as)
 |chk g t o=>exact jI.fail _
mutual
theorem Ij:∀ (a b:V),mY a b=true→mY (sub ρ a) (sub ρ b)=true
 |.undef,b,e=>by cases b<;>first|(cases e;done)|(simp only [sub];exact e)
 |.bool x,b,e=>by cases b<;>first|(cases e;done)|(simp only [sub];exact e)
 |.int k n,b,e=>by cases b<;>first|(cases e;done)|(simp only [sub];exact e)
 |.str s,b,e=>by cases b<;>first|(cases e;done)|(simp only [sub];exact e)
 |.nilPtr,b,e=>by cases b<;>first|(cases e;done)|(simp only [sub];exact e)
 |.bf _ _,b,e=>by cases b<;>first|(cases e;done)|(simp only [sub];exact e)
 |.dF _ _,b,e=>by cases b<;>first|(cases e;done)|(simp only [sub];exact e)
 |.gX x,b,e=>by cases b<;>first|(cases e;done)|(simp only [sub,mY] at e ⊢;exact uX _ _ e)
 |.aj,b,e=>by cases b<;>first|(cases e;done)|(simp only [sub];exact e)
 |.list x q,b,e=>by
  cases b with
  |list y r =>
   simp only [sub,mY,au] at e ⊢
   exact ⟨e.1,uX _ _ e.2⟩
  |_=>cases e
 |.hsl _ _ _ _ _,b,e=>by cases b<;>first|(cases e;done)|(simp only [sub];exact e)
 |.dV,b,e=>by cases b<;>first|(cases e;done)|(simp only [sub];exact e)
 |.map _,b,e=>by cases b<;>first|(cases e;done)|(simp only [sub];exact e)
 |.nilFunc,b,e=>by cases b<;>first|(cases e;done)|(simp only [sub];exact e)
 |.func fn x y,b,e=>by
  cases b with
  |func fn2 x2 y2 =>
   cases fn<;>cases fn2<;>first|(cases e;done)|skip
   simp only [sub,mY,au] at e ⊢
   exact ⟨⟨e.1.1,uX _ _ e.1.2⟩,uX _ _ e.2⟩
  |_=>cases fn<;>cases e
 |.nilIface,b,e=>by cases b<;>first|(cases e;done)|(simp only [sub];exact e)
 |.iface t v,b,e=>by
  cases b<;>first|(cases e;done)|skip
  rename_i u w
  simp only [mY,au] at e
  have ht:=aJ e.1
  subst ht
  simp only [jr]
  cases hb:Nat.beq t 1000000 with
  |true =>
   simp only [cond_true]
   rw [FC e.2]
   exact D9 _ (Good.flat w)
  |false =>
   simp only [cond_false,mY,Ij v w e.2,Bool.and_true]
   simp
 |.agg x,b,e=>by cases b<;>first|(cases e;done)|(simp only [sub,mY] at e ⊢;exact uX _ _ e)
 |.tuple x,b,e=>by cases b<;>first|(cases e;done)|(simp only [sub,mY] at e ⊢;exact uX _ _ e)
theorem uX:∀ (a b:List V),xu a b=true→xu (subs ρ a) (subs ρ b)=true
 |[],[],e=>by simp only [subs];exact e
 |[],_::_,e=>by cases e
 |_::_,[],e=>by cases e
 |a::as,b::bs,e=>by
  simp only [subs,xu,au] at e ⊢
  exact ⟨Ij a b e.1,uX as bs e.2⟩
end
theorem Me (t:Nat) (o:l7) (e:fC t o fr lo h=true):fC t (gQ ρ o) (subs ρ fr) (dG ρ lo) (dH ρ h)=true:=by
 have hr:=Z4 (ρ:=ρ) (fr:=fr) (lo:=lo) (h:=h) t o
 simp only [fC] at e ⊢
 cases ho:aZ t o fr lo h with
 |fail=>rw [ho] at e;cases e
 |ok v lo2 h2 =>
  rw [ho] at e hr
  rw [hr (by intro h;cases h),sG]
  exact Ij _ _ e
theorem ad3 (g:Option (Nat×Bool)) (t:Nat) (o:l7) (e:iM g t o fr lo h=true):iM g t (gQ ρ o) (subs ρ fr) (dG ρ lo) (dH ρ h)=true:=by
 have skip:mY (.tuple []) (aO fr t)=true→mY (.tuple []) (aO (subs ρ fr) t)=true:=fun e=>by
  have:=Ij (ρ:=ρ) _ _ e
  rw [Iw,←sG] at this
  exact this
 cases g with
 |none=>exact Me t o e
 |some p =>
  obtain ⟨s,b⟩:=p
  simp only [iM,sG (l:=fr) (n:=s)] at e ⊢
  generalize aO fr s=X at e ⊢
  cases X with
  |bool c =>
   simp only [sub] at e ⊢
   cases hq:(bif b then c else !c) with
   |true=>rw [hq] at e;exact Me t o e
   |false=>rw [hq] at e;exact skip e
  |tuple vs =>
   cases vs with
   |nil=>simp only [Iw] at e ⊢;exact skip e
   |cons v vs=>cases e
  |_=>cases e
theorem afl {k k':List V→Lo→H→Out} (hk:∀ fr lo h,jI ρ (k fr lo h) (k' (subs ρ fr) (dG ρ lo) (dH ρ h))) {o o':Out} (ho:jI ρ o o'):jI ρ (xE k o) (xE k' o'):=by
 cases o with
 |norm fr lo h=>rw [ho (by intro h;cases h)];exact hk fr lo h
 |_=>exact jI.fail _
theorem an4 (hi:nV ρ ih ih'):nV ρ (yL ih) (yL ih') where
 go c fr lo h:=by
  cases c with
  |ops l=>exact jI.rfl' _ rfl
  |code c=>exact hi.go (.code c) fr lo h
  |draws l=>exact hi.go (.draws l) fr lo h
  |call f as=>exact hi.go (.call f as) fr lo h
  |app f as=>exact hi.go (.app f as) fr lo h
  |scope c r=>exact hi.go (.scope c r) fr lo h
theorem adn (hi:nV ρ ih ih') (i:Ins) {k k':List V→Lo→H→Out} (hk:∀ fr lo h,jI ρ (k fr lo h) (k' (subs ρ fr) (dG ρ lo) (dH ρ h))):jI ρ (AV ih i k fr lo h) (AV ih' (yc ρ i) k' (subs ρ fr) (dG ρ lo) (dH ρ h)):=by
 have other:jI ρ (xE k (jQ (yL ih) [] i fr lo h)) (xE k' (jQ (yL ih') [] (yc ρ i) (subs ρ fr) (dG ρ lo) (dH ρ h))):=afl hk (NP (an4 hi) [] i)
 cases i with
 |chk g t o =>
  simp only [AV,yc]
  cases hq:iM g t o fr lo h with
  |false=>exact jI.fail _
  |true=>rw [ad3 g t o hq];exact hk fr lo h
 |_=>exact other
theorem NG (hi:nV ρ ih ih'):∀ (l:List Ins) (fr:List V) (lo:Lo) (h:H),jI ρ (bW ih l fr lo h) (bW ih' (tZ ρ l) (subs ρ fr) (dG ρ lo) (dH ρ h))
 |[],fr,lo,h=>jI.rfl' _ rfl
 |i::l,fr,lo,h=>adn hi i (NG hi l)
theorem adh (hi:nV ρ ih ih') (l:List Ins):jI ρ (gG ih l fr lo h) (gG ih' (tZ ρ l) (subs ρ fr) (dG ρ lo) (dH ρ h)):=by
 cases l with
 |nil=>exact jI.rfl' _ rfl
 |cons i os=>exact NP hi os i
theorem Gg (l st:Nat) (p:Option Jump) (lp:zN):setSt l st p (Qi ρ lp) (dH ρ h)=dH ρ (setSt l st p lp h):=by
 simp only [setSt,Qi]
 exact ET h l (.loop ⟨st,p,lp.fr,lp.params,lp.assign,lp.body⟩)
theorem SH (l:Nat) {o o':Out} (ho:jI ρ o o'):jI ρ (um l o) (um l o'):=by
 cases o with
 |norm fr lo h =>
  rw [ho (by intro h;cases h)]
  simp only [um,nN,sD]
  cases getLoop h l with
  |none=>exact jI.fail _
  |some lp=>exact jI.rfl' _ (by simp only [bP,Gg,nN,sub])
 |jump j fr lo h =>
  rw [ho (by intro h;cases h)]
  simp only [um,nN,sD]
  cases getLoop h l with
  |none=>exact jI.fail _
  |some lp=>exact jI.rfl' _ (by simp only [bP,Gg,nN,sub])
 |_=>exact jI.fail _
theorem XB (hi:nV ρ ih ih') (l:Nat) (body:aH) {o o':Out} (ho:jI ρ o o'):jI ρ (Dq ih l body o) (Dq ih' l (jY ρ body) o'):=by
 cases o with
 |norm fr lo h =>
  rw [ho (by intro h;cases h)]
  simp only [Dq,nN,sD]
  cases getLoop h l with
  |none=>exact jI.fail _
  |some lp =>
   simp only [bP]
   have hst:(Qi ρ lp).st=lp.st:=rfl
   have hp:(Qi ρ lp).pending=lp.pending:=rfl
   rw [hst,hp,Gg]
   cases Nat.beq lp.st 0 with
   |false=>exact jI.fail _
   |true=>exact SH l (hi.go (.code body) fr lo _)
 |_=>exact jI.fail _
theorem NH:∀ (ts:List Nat) (vs fr:List V),sK ts (subs ρ vs) (subs ρ fr)=(sK ts vs fr).map (subs ρ)
 |[],[],fr=>by simp only [subs,sK,bP]
 |[],v::vs,fr=>by simp only [subs,sK,Option.map_none]
 |t::ts,[],fr=>by simp only [subs,sK,Option.map_none]
 |t::ts,v::vs,fr=>by simp only [subs,sK,Ey,NH ts vs]
theorem U5 (hi:nV ρ ih ih') (l:Nat) (args:List V):jI ρ (rW ih l args h) (rW ih' l (subs ρ args) (dH ρ h)):=by
 simp only [rW,sD]
 cases getLoop h l with
 |none=>exact jI.fail _
 |some lp =>
  simp only [bP,Qi]
  cases Nat.beq lp.st 0 with
  |false=>exact jI.fail _
  |true =>
   simp only [cond_true,NH]
   cases sK lp.params args lp.fr with
   |none=>exact jI.fail _
   |some fr=>exact XB hi l lp.body (hi.go (.code lp.assign) fr [] h)
theorem ada (hi:nV ρ ih ih') (f:V) (args:List V):jI ρ (Hg ih f args fr lo h) (Hg ih' (sub ρ f) (subs ρ args) (subs ρ fr) (dG ρ lo) (dH ρ h)):=by
 cases f with
 |func fn first caps =>
  cases fn with
  |func g =>
   have:=hi.go (.call g (first++(args++caps))) fr lo h
   simp only [DF,qm] at this
   simp only [sub,Hg]
   exact this
  |yield l =>
   cases first with
   |nil=>simp only [sub,subs,Hg];exact U5 hi l args
   |cons a as=>exact jI.fail _
  |_=>exact jI.fail _
 |_=>exact jI.fail _
theorem UA:∀ (rs:List (Nat×Bool×Bool×Nat)) (vs:List V),resV fr lo h rs=some vs→resV (subs ρ fr) (dG ρ lo) (dH ρ h) rs=some (subs ρ vs)
 |[],vs,e=>by cases e;simp only [resV,subs]
 |(t,c,ag,sz)::r,vs,e=>by
  have key:∀ (o o':Option V),(∀ v,o=some v→o'=some (sub ρ v))→(match o with|none=>none|some v=>bif bY v then none else (match resV fr lo h r with|some vs=>some (v::vs)|none=>none))=some vs→(match o' with|none=>none|some v=>bif bY v then none else (match resV (subs ρ fr) (dG ρ lo) (dH ρ h) r with|some vs=>some (v::vs)|none=>none))=some (subs ρ vs):=by
   intro o o' ho e
   cases o with
   |none=>cases e
   |some v =>
    rw [ho v rfl]
    dsimp only at e ⊢
    rw [FQ]
    cases hl:bY v with
    |true=>rw [hl] at e;cases e
    |false =>
     rw [hl] at e
     simp only [cond_false] at e ⊢
     cases hr:resV fr lo h r with
     |none=>rw [hr] at e;cases e
     |some ws=>rw [hr] at e;cases e;rw [UA r ws hr];simp only [subs]
  simp only [resV] at e ⊢
  cases c with
  |true =>
   simp only [cond_true] at e ⊢
   refine key _ _ (fun v hv=>?_) e
   cases hc:bg (aO fr t) lo h with
   |none=>rw [hc] at hv;cases hv
   |some cs=>rw [hc] at hv;rw [sG,zT hc];dsimp only at hv ⊢;rw [oI];exact Px hv
  |false =>
   simp only [cond_false] at e ⊢
   exact key (some (aO fr t)) (some (aO (subs ρ fr) t)) (fun v hv=>by cases hv;rw [sG]) e
theorem NT (vs:List V):eG (subs ρ vs)=sub ρ (eG vs):=by
 match vs with
 |[]=>simp only [subs,eG,sub]
 |[v]=>simp only [subs,eG]
 |a::b::r=>simp only [subs,eG,sub]
theorem MV (fn:ak):jI ρ (leave fn fr lo h) (leave fn (subs ρ fr) (dG ρ lo) (dH ρ h)):=by
 simp only [leave,finish]
 cases he:resV fr lo h fn.results with
 |none=>exact jI.fail _
 |some vs =>
  rw [UA _ vs he]
  dsimp only
  cases fn.vW with
  |true =>
   simp only [cond_true,NT,OJ,Qj]
   exact jI.rfl' _ rfl
  |false=>simp only [cond_false,NT];exact jI.rfl' _ rfl
theorem abP (fn:ak) {o o':Out} (ho:jI ρ o o'):jI ρ (GK fn o) (GK fn o'):=by
 cases o with
 |norm fr lo h=>rw [ho (by intro h;cases h)];exact MV fn
 |jump j fr lo h =>
  rw [ho (by intro h;cases h)]
  cases j with
  |ret=>exact MV fn
  |_=>exact jI.fail _
 |_=>exact jI.fail _
theorem PO:∀ (n:Nat) (xs:List V),pad n (subs ρ xs)=subs ρ (pad n xs)
 |0,xs=>rfl
 |n+1,[]=>by
  have:=PO n []
  rw [yh] at this
  rw [yh]
  show V.undef::pad n []=subs ρ (V.undef::pad n [])
  rw [uQ,←this]
  simp only [sub]
 |n+1,x::xs=>by simp only [subs,pad,PO n xs]
theorem anC (n:Nat) (args:List V):jI ρ (ext n args h) (ext n (subs ρ args) (dH ρ h)):=by
 intro hne
 unfold ext at hne ⊢
 split at hne
 ·rename_i b c
  simp only [subs,sub]
  cases hc:Nat.blt c 256 with
  |false=>rw [hc] at hne;exact absurd rfl hne
  |true =>
   rw [hc] at hne
   rw [cond_true] at hne ⊢
   rw [cond_true]
   cases hb:bytesIn h b with
   |none=>rw [hb] at hne;exact absurd rfl hne
   |some bs =>
    rw [zQ hb]
    dsimp only [nN]
    cases Hy bs c 0<;>simp only [ae0,sub]
 ·rename_i b c
  simp only [subs,sub]
  cases hc:Nat.blt c 256 with
  |false=>rw [hc] at hne;exact absurd rfl hne
  |true =>
   simp only [cond_true,nN]
   cases Hy b c 0<;>simp only [ae0,sub]
 ·rename_i b c
  simp only [subs,sub]
  cases hc:Nat.blt c 256 with
  |false=>rw [hc] at hne;exact absurd rfl hne
  |true =>
   rw [hc] at hne
   simp only [cond_true] at hne ⊢
   cases hb:bytesIn h b with
   |none=>rw [hb] at hne;exact absurd rfl hne
   |some bs=>rw [zQ hb];simp only [nN,sub]
 ·exact absurd rfl hne
variable {mm XT:iO} {fns:Nat→Option ak}
structure yu (ρ:V→V) (mm XT:iO) (fns:Nat→Option ak):Prop where
 known:∀ f args v,aG mm f args=some v→aG XT f (subs ρ args)=some (sub ρ v)
 bare:∀ f vf,fns f=some vf→(∀ a,aG XT f a=none)∧jY ρ vf.body=vf.body
theorem YJ (hi:nV ρ ih ih') (hm:yu ρ mm XT fns) (f:Nat) (args:List V):jI ρ (sQ fns ih f args h) (sQ fns ih' f (subs ρ args) (dH ρ h)):=by
 simp only [sQ]
 cases hf:fns f with
 |none=>exact jI.fail _
 |some vf =>
  dsimp only
  cases Nat.beq vf.ext 0 with
  |false=>exact anC vf.ext args
  |true =>
   simp only [cond_true]
   have h1:=hi.go (.code vf.body) (pad vf.nt args) [] h
   simp only [DF,(hm.bare f vf hf).2,←PO] at h1
   exact abP vf h1
theorem ahk (hi:nV ρ ih ih') (hm:yu ρ mm XT fns):nV ρ (stepM mm fns ih) (stepM XT fns ih') where
 go c fr lo h:=by
  cases c with
  |code c=>exact YK hi c
  |ops l=>exact adh hi l
  |draws l=>exact NG hi l fr lo h
  |app f as=>exact ada hi f as
  |scope c r=>exact XD hi c (hi.go (.code r) fr lo h)
  |call f as =>
   simp only [stepM,DF]
   cases hr:aG mm f as with
   |some v=>rw [hm.known f as v hr];exact jI.rfl' _ rfl
   |none =>
    dsimp only
    cases hf:fns f with
    |none=>simp only [sQ,hf];exact jI.fail _
    |some vf=>rw [(hm.bare f vf hf).1];exact YJ hi hm f as
theorem P8 (hm:yu ρ mm XT fns):∀ n,nV ρ (runM mm fns n) (runM XT fns n)
 |0=>⟨fun _ _ _ _=>jI.fail _⟩
 |n+1=>ahk (P8 hm n) hm
end
end Go.Vx
