/- A part of the proof of TopLocks. -/
import Derived.Laws.Externs
import Derived.Lib.BytesEntry
import Derived.Test.YtbbcoelimmpbaaaGreatDoorVag
import Derived.Test.YtbbcoelimmpbaaaGreatDoorVah
set_option linter.all false
set_option linter.unusedVariables false
set_option linter.unusedSimpArgs false
set_option maxRecDepth 1000000
noncomputable section
namespace Go.Vx
section
open Go
variable {x:Cx} {e:List wY} {bZ pK:Fr} {bx bx':Bx} {fr fr':List V} {lo lo':Lo} {h h':H} {v v':V} {d t off:Nat} {g:Gd}
theorem kE:∀ {e:List wY} {n:wY},n∈sF d e→n∈e∧n.s≠d∧n.t≠d∧gOf n.g d=false
 |[],n,hn=>by cases hn
 |y::e,n,hn=>by
  simp only [sF] at hn
  cases hq:(Nat.beq y.s d||Nat.beq y.t d||gOf y.g d) with
  |true =>
   rw [hq] at hn
   have:=kE hn
   exact ⟨eX _ this.1,this.2⟩
  |false =>
   rw [hq] at hn
   simp only [Bool.or_eq_false_iff] at hq
   rcases List.mem_cons.1 hn with rfl|hn
   ·exact ⟨fF,fun hs=>by simp [hs] at hq,fun hs=>by simp [hs] at hq,hq.2⟩
   ·have:=kE hn
    exact ⟨eX _ this.1,this.2⟩
theorem RX.sub {e':List wY} (r:RX x e bZ bx fr lo) (hs:∀ n∈e',n∈e):RX x e' bZ bx fr lo:=⟨r.cap,r.len,r.val,r.box,fun n hn=>r.ent n (hs n hn),r.mrk⟩
theorem RX.kill (r:RX x e bZ bx fr lo):RX x (sF d e) bZ bx fr lo:=r.sub fun _ hn=>(kE hn).1
theorem RX.oK (r:RX x e bZ bx fr lo) {d:Option Nat}:RX x (oK d e) bZ bx fr lo:=by
 cases d with
 |none=>exact r
 |some d=>exact r.kill
theorem OO (hg:gOf g d=false) (hd:BU (jW fr d v) g):BU fr g:=by
 cases g with
 |none=>trivial
 |some p =>
  obtain ⟨s,b⟩:=p
  simp only [BU] at hd ⊢
  rw [dR,if_neg (fun hq=>by simp [gOf,hq.1] at hg)] at hd
  exact hd
theorem RV.H6 (hv:RV v v'):H6 v=H6 v':=by
 rcases hv with rfl|⟨⟨t,o,rfl⟩,rfl⟩<;>rfl
theorem J9 {s:Nat} (hs:Vy x s=true):oO x.B s=false∧oO x.PT s=false∧s<216:=by
 simp only [Vy,au,Bool.not_eq_true',Nat.ble_eq] at hs
 exact ⟨hs.1.1,hs.1.2,hs.2⟩
theorem RX.set (r:RX x e bZ bx fr lo) (hd:oO x.B d=false) (hn:d<x.nt) (hv:RV v v'):RX x (sF d e) ((ss d).f bZ v) bx (jW fr d v') lo:=by
 have zI:d<216:=Nat.lt_of_lt_of_le hn r.cap
 refine ⟨r.cap,by rw [iw,r.len],fun s hs=>?_,fun t ht hb hne=>?_,fun n hq hg=>?_,fun hrf s hs=>?_⟩
 ·obtain ⟨_,_,hs2⟩:=J9 hs
  by_cases hsd:s=d
  ·subst hsd
   rw [BO _ _ zI,dR,if_pos ⟨rfl,by rw [r.len];exact hn⟩]
   exact hv
  ·rw [xY _ _ hs2 zI hsd,dR,if_neg (fun hq=>hsd hq.1.symm)]
   exact r.val s hs
 ·have htd:t≠d:=by rintro rfl;rw [hb] at hd;cases hd
  rw [dR,if_neg (fun hq=>htd hq.1.symm)]
  exact r.box t ht hb hne
 ·obtain ⟨h1,h2,h3,h4⟩:=kE hq
  rw [dR,if_neg (fun hq=>h2 hq.1.symm)]
  exact r.ent n h1 (OO h4 hg)
 ·by_cases hsd:s=d
  ·subst hsd
   rw [BO _ _ zI,dR,if_pos ⟨rfl,by rw [r.len];exact hn⟩]
   exact hv.H6
  ·rw [xY _ _ hs zI hsd,dR,if_neg (fun hq=>hsd hq.1.symm)]
   exact r.mrk hrf s hs
noncomputable def mkF (x:Cx) (d:Nat) (v:V) (bZ:Fr):Fr:=bif x.rf then (ss d).f bZ v else bZ
theorem EC (x:Cx) (d:Nat) (v:V) (k:K2) (ih:Y3) (bZ:Fr) (bx:Bx) (h:H):(Na x d v k).f ih bZ bx h=k.f ih (mkF x d v bZ) bx h:=by
 unfold Na mkF
 cases x.rf<;>rfl
theorem BG {s:Nat} (hs:s<216) (hd:d<216) (hsd:s≠d):(sg s).f (mkF x d v bZ)=(sg s).f bZ:=by
 unfold mkF
 cases x.rf with
 |true=>exact xY _ _ hs hd hsd
 |false=>rfl
theorem JK (hd:d<216) (hrf:x.rf=true):(sg d).f (mkF x d v bZ)=v:=by
 unfold mkF
 rw [hrf]
 exact BO _ _ hd
theorem RX.ptr (r:RX x e bZ bx fr lo) (hp:oO x.PT d=true) (hd:oO x.B d=false) (hn:d<x.nt) (hg:BU fr g):RX x (bif Nat.beq t d||gOf g d then sF d e else ⟨d,t,off,g⟩::sF d e) (mkF x d .undef bZ) bx (jW fr d (.bf t off)) lo:=by
 have zI:d<216:=Nat.lt_of_lt_of_le hn r.cap
 have base:RX x (sF d e) (mkF x d .undef bZ) bx (jW fr d (.bf t off)) lo:=by
  refine ⟨r.cap,by rw [iw,r.len],fun s hs=>?_,fun t ht hb hne=>?_,fun n hq hg=>?_,fun hrf s hs=>?_⟩
  ·obtain ⟨_,h2,hs2⟩:=J9 hs
   have hsd:s≠d:=by rintro rfl;rw [hp] at h2;cases h2
   rw [BG hs2 zI hsd,dR,if_neg (fun hq=>hsd hq.1.symm)]
   exact r.val s hs
  ·have htd:t≠d:=by rintro rfl;rw [hb] at hd;cases hd
   rw [dR,if_neg (fun hq=>htd hq.1.symm)]
   exact r.box t ht hb hne
  ·obtain ⟨h1,h2,h3,h4⟩:=kE hq
   rw [dR,if_neg (fun hq=>h2 hq.1.symm)]
   exact r.ent n h1 (OO h4 hg)
  ·by_cases hsd:s=d
   ·subst hsd
    rw [JK zI hrf,dR,if_pos ⟨rfl,by rw [r.len];exact hn⟩]
    rfl
   ·rw [BG hs zI hsd,dR,if_neg (fun hq=>hsd hq.1.symm)]
    exact r.mrk hrf s hs
 cases hq:(Nat.beq t d||gOf g d) with
 |true=>exact base
 |false =>
  refine ⟨base.cap,base.len,base.val,base.box,fun n hn2 hg2=>?_,base.mrk⟩
  simp only [cond_false] at hn2
  rcases List.mem_cons.1 hn2 with rfl|hn2
  ·simp only
   rw [dR,if_pos ⟨rfl,by rw [r.len];exact hn⟩]
  ·exact base.ent n hn2 hg2
theorem rC (d:Nat):∀ (fr:List V) (s:Nat),aO (dI d fr) s=(match aO fr s with|.bf u o=>(bif Nat.beq u d then .undef else .bf u o)|v=>v)
 |[],s=>rfl
 |y::fr,0=>by
  simp only [dI,kF]
  cases y<;>rfl
 |y::fr,s+1=>by
  simp only [dI,iL]
  exact rC d fr s
theorem FV (d:Nat):∀ (fr:List V),(dI d fr).length=fr.length
 |[]=>rfl
 |y::fr=>by simp only [dI,List.length_cons,FV d fr]
theorem RX.alloc {cs:List V} (r:RX x e bZ bx fr lo) (hd:oO x.B d=true) (hn:d<x.nt):RX x (sF d e) (mkF x d .undef bZ) ((ss d).f bx cs) (jW (dI d fr) d (.bf d 0)) (dS lo d cs):=by
 have zI:d<216:=Nat.lt_of_lt_of_le hn r.cap
 have hlen:d<(dI d fr).length:=by rw [FV,r.len];exact hn
 refine ⟨r.cap,by rw [iw,FV,r.len],fun s hs=>?_,fun t ht hb hne=>?_,fun n hq hg=>?_,fun hrf s hs=>?_⟩
 ·obtain ⟨h1,_,hs2⟩:=J9 hs
  have hsd:s≠d:=by rintro rfl;rw [hd] at h1;cases h1
  rw [BG hs2 zI hsd,dR,if_neg (fun hq=>hsd hq.1.symm),rC]
  rcases r.val s hs with hv|⟨hv,hu⟩
  ·cases hw:aO fr s with
   |bf u o =>
    dsimp only
    cases hb:Nat.beq u d with
    |true=>exact .inr ⟨⟨u,o,hv.trans hw⟩,rfl⟩
    |false=>exact .inl (hv.trans hw)
   |_=>exact .inl (hv.trans hw)
  ·rw [hu];exact .inr ⟨hv,rfl⟩
 ·rw [dR,wF]
  by_cases htd:t=d
  ·subst htd
   rw [if_pos ⟨rfl,hlen⟩,if_pos rfl,BO _ _ ht]
   exact ⟨rfl,rfl⟩
  ·rw [xY _ _ ht zI htd] at hne ⊢
   obtain ⟨h1,h2⟩:=r.box t ht hb hne
   rw [if_neg (fun hq=>htd hq.1.symm),if_neg (Ne.symm htd),rC,h1]
   refine ⟨?_,h2⟩
   dsimp only
   cases hb:Nat.beq t d with
   |true=>exact absurd (aJ hb) htd
   |false=>rfl
 ·obtain ⟨h1,h2,h3,h4⟩:=kE hq
  rw [dR,if_neg (fun hq=>h2 hq.1.symm),rC]
  have hg1:=OO h4 hg
  have hg2:BU fr n.g:=by
   cases hng:n.g with
   |none=>trivial
   |some p =>
    obtain ⟨s,b⟩:=p
    rw [hng] at hg1
    simp only [BU] at hg1 ⊢
    rw [rC] at hg1
    cases hw:aO fr s<;>rw [hw] at hg1<;>first|exact hg1|(dsimp only at hg1;rename_i u o;cases hb:Nat.beq u d<;>rw [hb] at hg1<;>cases hg1)
  rw [r.ent n h1 hg2]
  dsimp only
  cases hb:Nat.beq n.t d with
  |true=>exact absurd (aJ hb) h3
  |false=>rfl
 ·by_cases hsd:s=d
  ·subst hsd
   rw [JK zI hrf,dR,if_pos ⟨rfl,hlen⟩]
   rfl
  ·rw [BG hs zI hsd,dR,if_neg (fun hq=>hsd hq.1.symm),rC,r.mrk hrf s hs]
   cases aO fr s with
   |bf u o =>
    dsimp only
    cases Nat.beq u d<;>rfl
   |_=>rfl
theorem RX.pass (r:RX x e bZ bx fr lo) (hd:oO x.B d=true) (hn:d<x.nt):RX x (sF d e) (mkF x d (.tuple []) bZ) ((ss d).f bx []) (jW fr d (.tuple [])) lo:=by
 have zI:d<216:=Nat.lt_of_lt_of_le hn r.cap
 refine ⟨r.cap,by rw [iw,r.len],fun s hs=>?_,fun t ht hb hne=>?_,fun n hq hg=>?_,fun hrf s hs=>?_⟩
 ·obtain ⟨h1,_,hs2⟩:=J9 hs
  have hsd:s≠d:=by rintro rfl;rw [hd] at h1;cases h1
  rw [BG hs2 zI hsd,dR,if_neg (fun hq=>hsd hq.1.symm)]
  exact r.val s hs
 ·by_cases htd:t=d
  ·subst htd;rw [BO _ _ ht] at hne;exact absurd rfl hne
  ·rw [xY _ _ ht zI htd] at hne ⊢
   rw [dR,if_neg (fun hq=>htd hq.1.symm)]
   exact r.box t ht hb hne
 ·obtain ⟨h1,h2,h3,h4⟩:=kE hq
  rw [dR,if_neg (fun hq=>h2 hq.1.symm)]
  exact r.ent n h1 (OO h4 hg)
 ·by_cases hsd:s=d
  ·subst hsd
   rw [JK zI hrf,dR,if_pos ⟨rfl,by rw [r.len];exact hn⟩]
  ·rw [BG hs zI hsd,dR,if_neg (fun hq=>hsd hq.1.symm)]
   exact r.mrk hrf s hs
theorem RX.write {cs:List V} (r:RX x e bZ bx fr lo) (ht:t<216) (hb:oO x.B t=true) (hne:(sg t).f bx≠[]):RX x e bZ ((ss t).f bx cs) fr (dS lo t cs):=by
 refine ⟨r.cap,r.len,r.val,fun s hs hsb hsn=>?_,r.ent,r.mrk⟩
 rw [wF]
 by_cases hst:s=t
 ·subst hst
  rw [if_pos rfl,BO _ _ hs]
  exact ⟨(r.box s hs hsb hne).1,rfl⟩
 ·rw [xY _ _ hs ht hst] at hsn ⊢
  rw [if_neg (Ne.symm hst)]
  exact r.box s hs hsb hsn
end
section
open Go
variable {mm:iO} {fns:Nat→Option ak} {x:Cx} {e:List wY} {bZ pK:Fr} {bx bx':Bx} {fr fr':List V} {lo lo':Lo} {h h':H} {v v':V} {d:Option Nat} {t off:Nat} {g:Gd} {k:K2} {ih2:Y3} {o2:jw} {o:l7}
def Ev (mm:iO) (fns:Nat→Option ak) (c:Cmd) (fr:List V) (lo:Lo) (h:H) (o:Out):Prop:=∃ N,∀ m,N≤m→runM mm fns m c fr lo h=o
theorem Ev.of {c:Cmd} {o:Out} (hq:∃ N,∀ m,N≤m→stepM mm fns (runM mm fns m) c fr lo h=o):Ev mm fns c fr lo h o:=by
 obtain ⟨N,hN⟩:=hq
 refine ⟨N+1,fun m hm=>?_⟩
 obtain ⟨m,rfl⟩:∃ k,m=k+1:=⟨m-1,by omega⟩
 exact hN m (by omega)
def Do1 (mm:iO) (fns:Nat→Option ak) (st:Ih→List Ins→List V→Lo→H→Out) (fr:List V) (lo:Lo) (h:H) (fr':List V) (lo':Lo) (h':H):Prop :=
 ∃ N,∀ m,N≤m→∀ ih:Ih,(∀ f as fr lo h,ih (.call f as) fr lo h=runM mm fns m (.call f as) fr lo h)→(∀ f as fr lo h,ih (.app f as) fr lo h=runM mm fns m (.app f as) fr lo h)→∀ os,st ih os fr lo h=ih (.ops os) fr' lo' h'
def EvL (mm:iO) (fns:Nat→Option ak) (dr:Bool) (l:List Ins) (fr:List V) (lo:Lo) (h:H) (o:Out):Prop :=
 match dr with|false=>Ev mm fns (.ops l) fr lo h o|true=>∃ N,∀ m,N≤m→bW (runM mm fns m) l fr lo h=o
def afR (i:Ins):Bool:=match i with|.chk _ _ _=>false|_=>true
theorem EvL.cons {dr:Bool} {i:Ins} {os:List Ins} {o:Out} (hi:afR i=true) (h1:Do1 mm fns (fun ih os=>jQ ih os i) fr lo h fr' lo' h') (h2:EvL mm fns dr os fr' lo' h' o):EvL mm fns dr (i::os) fr lo h o:=by
 obtain ⟨N1,h1⟩:=h1
 cases dr with
 |false =>
  obtain ⟨N2,h2⟩:=h2
  refine Ev.of ⟨N1+N2,fun m hm=>?_⟩
  have:=h1 m (by omega) (runM mm fns m) (fun _ _ _ _ _=>rfl) (fun _ _ _ _ _=>rfl) os
  exact this.trans (h2 m (by omega))
 |true =>
  obtain ⟨N2,h2⟩:=h2
  refine ⟨N1+N2,fun m hm=>?_⟩
  have:=h1 m (by omega) (yL (runM mm fns m)) (fun _ _ _ _ _=>rfl) (fun _ _ _ _ _=>rfl) []
  have e1:bW (runM mm fns m) (i::os) fr lo h=xE (bW (runM mm fns m) os) (jQ (yL (runM mm fns m)) [] i fr lo h):=by
   cases i<;>first|rfl|cases hi
  rw [e1]
  have this:jQ (yL (runM mm fns m)) [] i fr lo h=.norm fr' lo' h':=this
  rw [this]
  exact h2 m (by omega)
theorem EvL.chk {t:Nat} {os:List Ins} {out:Out} (hc:iM g t o fr lo h=true) (h2:EvL mm fns true os fr lo h out):EvL mm fns true (.chk g t o::os) fr lo h out:=by
 obtain ⟨N2,h2⟩:=h2
 refine ⟨N2,fun m hm=>?_⟩
 have:bW (runM mm fns m) (.chk g t o::os) fr lo h=bif iM g t o fr lo h then bW (runM mm fns m) os fr lo h else .fail:=rfl
 rw [this,hc]
 exact h2 m hm
theorem Yd (hq:okT x t=true):oO x.B t=true∧t<216:=by
 simp only [okT,au,Nat.ble_eq] at hq
 exact ⟨hq.1,hq.2⟩
theorem anS {a b:Gd} (hq:anR a b=true):a=b:=by
 cases a with
 |none=>cases b with
  |none=>rfl
  |some q=>cases hq
 |some p=>cases b with
  |none=>cases hq
  |some q =>
   obtain ⟨s,y⟩:=p
   obtain ⟨t,z⟩:=q
   simp only [anR,au] at hq
   have h1:=aJ hq.1
   have h2:y=z:=by cases y<;>cases z<;>simp_all
   rw [h1,h2]
theorem ae3 (hg:BU fr g):∀ {e:List wY} {s:Nat} {p:Nat×Nat},(∀ n∈e,BU fr n.g→aO fr n.s=.bf n.t n.o)→inE e g s=some p→aO fr s=.bf p.1 p.2
 |[],s,p,_,hq=>by cases hq
 |y::e,s,p,he,hq=>by
  simp only [inE] at hq
  cases h1:Nat.beq y.s s with
  |false=>rw [h1] at hq;exact ae3 hg (fun n hn=>he n (eX _ hn)) hq
  |true =>
   have hs:=aJ h1
   subst hs
   rw [h1] at hq
   simp only [cond_true] at hq
   cases h2:(aBp y.g||anR y.g g) with
   |false=>rw [h2] at hq;cases hq
   |true =>
    rw [h2] at hq
    cases hq
    refine he y fF ?_
    rw [gu] at h2
    rcases h2 with h2|h2
    ·cases hyg:y.g with
     |none=>trivial
     |some _=>rw [hyg] at h2;cases h2
    ·rw [anS h2];exact hg
theorem xW (r:RX x e bZ bx fr lo) (hg:BU fr g) {a:aF} (hq:zh x e g a=some (t,off)):oO x.B t=true∧t<216∧((sg t).f bx≠[]→a.ev fr=.bf t off):=by
 cases a with
 |const v=>cases hq
 |tmp s =>
  simp only [zh] at hq
  cases h1:oO x.B s with
  |true =>
   rw [h1] at hq
   simp only [cond_true] at hq
   cases h2:okT x s with
   |false=>rw [h2] at hq;cases hq
   |true =>
    rw [h2] at hq
    cases hq
    obtain ⟨q1,q2⟩:=Yd h2
    exact ⟨q1,q2,fun hne=>(r.box _ q2 q1 hne).1⟩
  |false =>
   rw [h1] at hq
   simp only [cond_false] at hq
   cases h2:oO x.PT s with
   |false=>rw [h2] at hq;cases hq
   |true =>
    rw [h2] at hq
    simp only [cond_true] at hq
    cases h3:inE e g s with
    |none=>rw [h3] at hq;cases hq
    |some p =>
     rw [h3] at hq
     obtain ⟨p1,p2⟩:=p
     dsimp only at hq
     cases h4:okT x p1 with
     |false=>rw [h4] at hq;cases hq
     |true =>
      rw [h4] at hq
      cases hq
      obtain ⟨q1,q2⟩:=Yd h4
      exact ⟨q1,q2,fun _=>ae3 hg r.ent h3⟩
theorem agt (r:RX x e bZ bx fr lo) (hg:BU fr g) (hq:J5 x e g o=some (t,off)) (hne:(sg t).f bx≠[]) (dn:Nat):bF o=false∧aZ dn o fr lo h=.ok (.bf t off) lo h:=by
 cases o with
 |mv a =>
  have:=(xW r hg hq).2.2 hne
  exact ⟨rfl,by simp only [aZ,jh,this]⟩
 |ji a =>
  have:=(xW r hg hq).2.2 hne
  exact ⟨rfl,by simp only [aZ,cZ,this]⟩
 |fieldAddr k a =>
  simp only [J5] at hq
  cases h1:zh x e g a with
  |none=>rw [h1] at hq;cases hq
  |some p =>
   rw [h1] at hq
   obtain ⟨p1,p2⟩:=p
   cases hq
   have:=(xW r hg h1).2.2 hne
   exact ⟨rfl,by simp only [aZ,aK,this]⟩
 |_=>cases hq
theorem UK:∀ n,skip n []=[]|0=>rfl|_+1=>rfl
theorem Pm {n:Nat} {cs:List V} {c:V} (hq:bn n cs=some c):∃ r,skip n cs=c::r:=by
 unfold bn at hq
 cases hs:skip n cs with
 |nil=>rw [hs] at hq;cases hq
 |cons a r=>rw [hs] at hq;cases hq;exact ⟨r,rfl⟩
theorem aam {p:W (Fr→Bx→H→OX)} (r:RX x e bZ bx fr lo) (hg:BU fr g) (hp:YU x e g o=some p) (he:p.f bZ bx h=.ok v h') (dn:Nat):bF o=false∧∃ v',aZ dn o fr lo h=.ok v' lo h'∧RV v v':=by
 have gen:(bif zi x (l7.slots o) then some (⟨fun fr _ h=>(Uj o).f fr h⟩:W (Fr→Bx→H→OX)) else none)=some p→bF o=false∧∃ v',aZ dn o fr lo h=.ok v' lo h'∧RV v v':=by
  intro hp
  cases hs:zi x (l7.slots o) with
  |false=>rw [hs] at hp;cases hp
  |true =>
   rw [hs] at hp
   cases hp
   exact ay2 r hs he
 cases o with
 |mF a =>
  simp only [YU] at hp
  cases h1:zh x e g a with
  |none=>rw [h1] at hp;exact gen hp
  |some q =>
   obtain ⟨t,off⟩:=q
   rw [h1] at hp
   cases hp
   obtain ⟨hb,ht,ha⟩:=xW r hg h1
   obtain ⟨hv,rfl⟩:=asg he
   rw [Py] at hv
   have hne:(sg t).f bx≠[]:=by
    intro hq;rw [hq] at hv;unfold bn at hv;rw [UK] at hv;cases hv
   obtain ⟨rr,hs⟩:=Pm hv
   refine ⟨rfl,v,?_,.inl rfl⟩
   simp only [aZ,cu,ha hne,bg,(r.box t ht hb hne).2,hs]
 |nR n a =>
  simp only [YU] at hp
  cases h1:zh x e g a with
  |none=>rw [h1] at hp;exact gen hp
  |some q =>
   obtain ⟨t,off⟩:=q
   rw [h1] at hp
   dsimp only at hp
   cases hn:Nat.beq n 0 with
   |true=>rw [hn] at hp;cases hp
   |false =>
    rw [hn] at hp
    cases hp
    obtain ⟨hb,ht,ha⟩:=xW r hg h1
    obtain ⟨cs,hv,he⟩:=JX he
    cases he
    rw [A8,EL] at hv
    have hne:(sg t).f bx≠[]:=by
     intro hq
     rw [hq,UK] at hv
     cases n with
     |zero=>cases hn
     |succ n=>cases hv
    refine ⟨rfl,_,?_,.inl rfl⟩
    simp only [aZ,cO,ha hne,bg,(r.box t ht hb hne).2,hv]
 |_=>exact gen hp
theorem Iu (r:RX x e bZ bx fr lo) (he:(acV x d k).f ih2 bZ bx v h=o2) (hn:o2≠.fail) (hv:RV v v'):∃ pK,RX x (oK d e) pK bx (eF fr d v') lo∧k.f ih2 pK bx h=o2:=by
 cases d with
 |none=>exact ⟨bZ,r,he⟩
 |some d =>
  simp only [acV] at he
  cases hb:(oO x.B d||!(Nat.ble (Nat.succ d) x.nt)) with
  |true=>rw [hb] at he;exact absurd he.symm hn
  |false =>
   rw [hb] at he
   simp only [Bool.or_eq_false_iff,Bool.not_eq_false',Nat.ble_eq] at hb
   exact ⟨_,r.set hb.1 hb.2 hv,he⟩
theorem Qh (hal:bF o=false) (ih:Ih) (os:List Ins):qK ih os (.op d o) fr lo h=FU ih os fr d (aZ (d.getD 0) o fr lo h):=by
 cases d with
 |none=>simp only [qK,hal,cond_false,Option.getD]
 |some d=>simp only [qK,hal,cond_false,Option.getD]
theorem D8 (hp:J5 x e g o=none):Oy x e g d o=oK d e:=by
 cases d with
 |none=>rfl
 |some d=>simp only [Oy,hp];rfl
theorem agc (r:RX x e bZ bx fr lo) (hg:BU fr g) (hp:J5 x e g o=none) (he:(opV x e g d o k).f ih2 bZ bx h=o2) (hn:o2≠.fail) :
  ∃ pK bx' h' fr' lo',(∀ ih os,qK ih os (.op d o) fr lo h=ih (.ops os) fr' lo' h')∧RX x (Oy x e g d o) pK bx' fr' lo'∧k.f ih2 pK bx' h'=o2:=by
 unfold opV at he
 cases hw:YU x e g o with
 |none=>rw [hw] at he;exact absurd he.symm hn
 |some p =>
  rw [hw] at he
  obtain ⟨v,h1,hv,he⟩:=oxR he hn
  obtain ⟨hal,v',hev,Lc⟩:=aam r hg hw hv (d.getD 0)
  obtain ⟨E5,hr3,he⟩:=Iu r he hn Lc
  refine ⟨E5,bx,h1,eF fr d v',lo,fun ih os=>?_,?_,he⟩
  ·rw [Qh hal,hev];rfl
  ·rw [D8 hp];exact hr3
theorem arB {l:List V} {K r:jw} (hq:(List.rec (motive:=fun _=>jw) .fail (fun _ _ _=>K) l)=r) (hn:r≠.fail):l≠[]∧K=r:=by
 cases l with
 |nil=>exact absurd hq.symm hn
 |cons a l=>exact ⟨by simp,hq⟩
theorem ay1 (r:RX x e bZ bx fr lo) (hg:BU fr g) (he:(opK x e g d o k).f ih2 bZ bx h=o2) (hn:o2≠.fail) :
  ∃ pK bx' h' fr' lo',(∀ ih os,qK ih os (.op d o) fr lo h=ih (.ops os) fr' lo' h')∧RX x (Oy x e g d o) pK bx' fr' lo'∧k.f ih2 pK bx' h'=o2:=by
 unfold opK at he
 cases hp:J5 x e g o with
 |some p =>
  obtain ⟨t,off⟩:=p
  rw [hp] at he
  cases d with
  |none=>exact absurd he.symm hn
  |some d =>
   dsimp only at he
   cases hc:(oO x.PT d&&!(oO x.B d)&&Nat.ble (Nat.succ d) x.nt) with
   |false=>rw [hc] at he;exact absurd he.symm hn
   |true =>
    rw [hc] at he
    simp only [au,Bool.not_eq_true',Nat.ble_eq] at hc
    obtain ⟨hne,he⟩:=arB he hn
    rw [EC] at he
    refine ⟨_,bx,h,jW fr d (.bf t off),lo,fun ih os=>?_,?_,he⟩
    ·have:=agt (h:=h) r hg hp hne d
     rw [Qh this.1,show (some d).getD 0=d from rfl,this.2];rfl
    ·simp only [Oy,hp]
     exact r.ptr hc.1.1 hc.1.2 hc.2 hg
 |none =>
  rw [hp] at he
  dsimp only at he
  cases o with
  |alloc z =>
   cases d with
   |none=>exact absurd he.symm hn
   |some d =>
    dsimp only at he
    cases hc:(oO x.B d&&Nat.ble (Nat.succ d) x.nt&&Nat.ble (Nat.succ d) 216) with
    |false=>rw [hc] at he;exact absurd he.symm hn
    |true =>
     rw [hc] at he
     simp only [au,Nat.ble_eq] at hc
     simp only [cond_true] at he
     rw [EC] at he
     refine ⟨_,_,h,jW (dI d fr) d (.bf d 0),dS lo d z,fun ih os=>?_,?_,he⟩
     ·rfl
     ·rw [D8 hp]
      exact r.alloc hc.1.1 hc.1.2
  |yA a =>
   cases d with
   |none=>exact absurd he.symm hn
   |some d =>
    dsimp only at he
    cases hc:(oO x.B d&&Nat.ble (Nat.succ d) x.nt&&Nat.ble (Nat.succ d) 216&&zi x a.slots) with
    |false=>rw [hc] at he;exact absurd he.symm hn
    |true =>
     rw [hc] at he
     simp only [au,Nat.ble_eq] at hc
     simp only [cond_true] at he
     obtain ⟨cs,hcs,he⟩:=acz he hn
     rw [EC] at he
     obtain ⟨_,hv,n1,n2⟩:=Iz (n:=0) (r.ro hc.2) hcs
     refine ⟨_,_,h,jW (dI d fr) d (.bf d 0),dS lo d cs,fun ih os=>?_,?_,he⟩
     ·have:wV d a fr lo h=.ok (.bf d 0) (dS lo d (V.cells (a.ev fr))) h:=by
       unfold wV
       split
       ·rename_i t o hq;exact absurd hq (n1 t o)
       ·rename_i hq;exact absurd hq n2
       ·rfl
      rw [hv] at this
      simp only [qK,bF,cond_true,aZ,this]
      rfl
     ·rw [D8 hp]
      exact r.alloc hc.1.1.1 hc.1.1.2
  |store n a y =>
   dsimp only at he
   cases h1:zh x e g a with
   |none=>rw [h1] at he;exact agc r hg hp he hn
   |some q =>
    obtain ⟨t,off⟩:=q
    rw [h1] at he
    dsimp only at he
    cases hc:(zi x y.slots&&noD d) with
    |false=>rw [hc] at he;exact absurd he.symm hn
    |true =>
     rw [hc] at he
     simp only [au] at hc
     cases d with
     |some d=>cases hc.2
     |none =>
      obtain ⟨vs,hvs,he⟩:=acz he hn
      obtain ⟨hb1,he⟩:=L8 he hn
      obtain ⟨hb2,he⟩:=L8 he hn
      obtain ⟨hne,he⟩:=arB he hn
      obtain ⟨cs,hcs,he⟩:=acz he hn
      obtain ⟨hb,ht,ha⟩:=xW r hg h1
      obtain ⟨_,hv,n1,n2⟩:=Iz (n:=0) (r.ro hc.1) hvs
      rw [Ep] at hb1
      rw [okF_eq] at hb2
      refine ⟨bZ,_,h,fr,dS lo t cs,fun ih os=>?_,r.write ht hb hne,he⟩
      rw [Qh rfl]
      simp only [aZ]
      rw [JV n1 n2,hv,hb1,hb2,ha hne]
      simp only [Bool.and_self,cond_true,bH,(r.box t ht hb hne).2,NK hcs]
      rfl
  |mv a =>
   dsimp only at he
   cases hc:zi x a.slots with
   |false=>rw [hc] at he;exact absurd he.symm hn
   |true =>
    rw [hc] at he
    simp only [cond_true] at he
    obtain ⟨E5,hr3,he⟩:=Iu r he hn (r.ro hc)
    refine ⟨E5,bx,h,eF fr d (a.ev fr),lo,fun ih os=>?_,?_,he⟩
    ·rw [Qh rfl];rfl
    ·rw [D8 hp];exact hr3
  |_=>exact agc r hg hp he hn
end
section
open Go
variable {mm:iO} {fns:Nat→Option ak} {x:Cx} {e:List wY} {bZ pK:Fr} {bx bx':Bx} {fr fr':List V} {lo lo':Lo} {h h':H} {v v':V} {d:Option Nat} {t off:Nat} {g:Gd} {k:K2} {ih2:Y3} {o2:jw} {o:l7}
def aau (x:Cx) (o2:jw) (o:Out):Prop:=match o2,o with
 |.norm bZ bx h,.norm fr lo h'=>h=h'∧RX x [] bZ bx fr lo
 |.jump j bZ bx h,.jump j' fr lo h'=>j=j'∧h=h'∧RX x [] bZ bx fr lo
 |_,_=>False
structure Fe (mm:iO) (fns:Nat→Option ak) (ih:Y3):Prop where
 code:∀ {x c bZ bx h o2 fr lo},ih (.code x c) bZ bx h=o2→o2≠.fail→RX x [] bZ bx fr lo→∃ o,aau x o2 o∧Ev mm fns (.code c) fr lo h o
 scope:∀ {x c r bZ bx h o2 fr lo},ih (.scope x c r) bZ bx h=o2→o2≠.fail→RX x [] bZ bx fr lo→∃ o,aau x o2 o∧Ev mm fns (.scope c r) fr lo h o
 call:∀ {f as bZ bx h v h'},ih (.call f as) bZ bx h=.val v h'→∀ fr lo,Ev mm fns (.call f as) fr lo h (.val v h')
 app:∀ {f as bZ bx h v h'},ih (.app f as) bZ bx h=.val v h'→∀ fr lo,Ev mm fns (.app f as) fr lo h (.val v h')
theorem Oj:∀ {l:List aF} {vs:List V},(∀ a∈l,RO bZ fr a)→(aaz l).f bZ=some vs→iD (aF.evs l fr)=false∧aF.evs l fr=vs
 |[],vs,_,hq=>by cases hq;exact ⟨rfl,rfl⟩
 |y::l,vs,hr,hq=>by
  have e1:(aaz (y::l)).f bZ=Option.rec none (fun r=>Bool.rec (some ((xo y).f bZ::r)) none (Ia ((xo y).f bZ))) ((aaz l).f bZ):=rfl
  rw [e1] at hq
  cases h1:(aaz l).f bZ with
  |none=>rw [h1] at hq;cases hq
  |some r =>
   rw [h1] at hq
   dsimp only at hq
   obtain ⟨q1,q2⟩:=Oj (fun a ha=>hr a (eX _ ha)) h1
   cases h2:Ia ((xo y).f bZ) with
   |true=>rw [h2] at hq;cases hq
   |false =>
    rw [h2] at hq
    cases hq
    have nl:=YT h2
    rcases hr y fF with hy|⟨⟨t,o,hy⟩,_⟩
    ·simp only [aF.evs,←hy,q2]
     refine ⟨?_,by trivial⟩
     rw [q2] at q1
     simp only [iD]
     first
     |exact q1
     |(split
       ·rename_i t o hq;exact absurd hq (nl t o)
       ·exact q1)
    ·exact absurd hy (nl t o)
theorem aCS {K:V→H→jw} {o r:jw} (hq:(jw.rec (motive:=fun _=>jw) .fail (fun _ _ _=>.fail) (fun _ _ _ _=>.fail) K o)=r) (hn:r≠.fail):∃ v h,o=.val v h∧K v h=r:=by
 cases o with
 |val v h=>exact ⟨v,h,rfl,hq⟩
 |_=>exact absurd hq.symm hn
def aAt (x:Cx) (e:List wY) (g:Gd) (i:Ins):List wY:=match i with|.op d o=>Oy x e g d o|.defer _ _ _=>e|i=>oK i.dst e
theorem FZ:∀ {e:List wY} {n:wY} {d:Nat},n∈e→n.s≠d→n.t≠d→gOf n.g d=false→n∈sF d e
 |[],n,d,hn,_,_,_=>by cases hn
 |y::e,n,d,hn,h1,h2,h3=>by
  simp only [sF]
  rcases List.mem_cons.1 hn with rfl|hn
  ·have e1:Nat.beq n.s d=false:=by cases hb:Nat.beq n.s d with|false=>rfl|true=>exact absurd (aJ hb) h1
   have e2:Nat.beq n.t d=false:=by cases hb:Nat.beq n.t d with|false=>rfl|true=>exact absurd (aJ hb) h2
   rw [e1,e2,h3]
   exact fF
  ·have:=FZ hn h1 h2 h3
   cases (Nat.beq y.s d||Nat.beq y.t d||gOf y.g d) with
   |true=>exact this
   |false=>exact eX _ this
theorem XF {d:Option Nat} {n:wY} (hq:n∈oK d e):n∈e:=by
 cases d with
 |none=>exact hq
 |some d=>exact (kE hq).1
theorem Du {d d':Option Nat} {n:wY} (hq:n∈oK d (oK d' e)):n∈oK d' (oK d e):=by
 cases d with
 |none=>exact hq
 |some d=>cases d' with
  |none=>exact hq
  |some d' =>
   obtain ⟨h1,h2,h3,h4⟩:=kE hq
   obtain ⟨k1,k2,k3,k4⟩:=kE h1
   exact FZ (FZ k1 h2 h3 h4) k2 k3 k4
theorem Bz {d d':Option Nat} {n:wY} (hq:n∈oK d (oK d' e)):n∈oK d e:=XF (Du hq)
theorem Zr (hi:Fe mm fns ih2) {i:Ins} (r:RX x e bZ bx fr lo) (hg:BU fr g) (he:(Xb x e g i k).f ih2 bZ bx h=o2) (hn:o2≠.fail) :
  ∃ pK bx' h' fr' lo',Do1 mm fns (fun ih os=>qK ih os i) fr lo h fr' lo' h'∧RX x (aAt x e g i) pK bx' fr' lo'∧k.f ih2 pK bx' h'=o2:=by
 cases i with
 |op d o =>
  obtain ⟨a,b,c,f,l,h1,h2,h3⟩:=ay1 r hg he hn
  exact ⟨a,b,c,f,l,⟨0,fun m _ ih _ _ os=>h1 ih os⟩,h2,h3⟩
 |call d f as =>
  simp only [Xb] at he
  cases hc:zi x (pX as) with
  |false=>rw [hc] at he;exact absurd he.symm hn
  |true =>
   rw [hc] at he
   obtain ⟨vs,hvs,he⟩:=acz he hn
   obtain ⟨v,h1,hv,he⟩:=aCS he hn
   obtain ⟨E5,hr3,he⟩:=Iu r he hn (.inl rfl)
   obtain ⟨q1,q2⟩:=Oj (r.ros hc) hvs
   obtain ⟨N,hN⟩:=hi.call hv [] []
   refine ⟨E5,bx,h1,eF fr d v,lo,⟨N,fun m hm ih i1 _ os=>?_⟩,hr3,he⟩
   simp only [qK]
   rw [q1,q2,i1,hN m hm]
   rfl
 |dyn d f as =>
  simp only [Xb] at he
  cases hc:zi x (f.slots++pX as) with
  |false=>rw [hc] at he;exact absurd he.symm hn
  |true =>
   rw [hc] at he
   obtain ⟨vs,hvs,he⟩:=acz he hn
   obtain ⟨v,h1,hv,he⟩:=aCS he hn
   obtain ⟨E5,hr3,he⟩:=Iu r he hn (.inl rfl)
   have hc2:=lJ hc
   obtain ⟨q1,q2⟩:=Oj (r.ros hc2.2) hvs
   have hf:(xo f).f bZ=f.ev fr:=by
    rcases r.ro hc2.1 with hf|⟨⟨t,o,hf⟩,hu⟩
    ·exact hf
    ·exfalso
     rw [hf] at hv
     obtain ⟨N,hN⟩:=hi.app hv [] []
     have:=hN (N+1) (by omega)
     cases this
   rw [hf] at hv
   obtain ⟨N,hN⟩:=hi.app hv [] []
   refine ⟨E5,bx,h1,eF fr d v,lo,⟨N,fun m hm ih _ i2 os=>?_⟩,hr3,he⟩
   simp only [qK]
   rw [q1,q2,i2,hN m hm]
   rfl
 |defer ids f as =>
  simp only [Xb] at he
  cases hc:zi x f.slots with
  |false=>rw [hc] at he;exact absurd he.symm hn
  |true =>
   rw [hc] at he
   obtain ⟨hb,he⟩:=L8 he hn
   refine ⟨bZ,bx,h,fr,lo,⟨0,fun m _ ih _ _ os=>?_⟩,r,he⟩
   have hf:(xo f).f bZ=f.ev fr:=by
    rcases r.ro hc with hf|⟨⟨t,o,hf⟩,hu⟩
    ·exact hf
    ·rw [hf] at hb;cases hb
   simp only [qK]
   rw [←hf,hb];rfl
 |_=>exact absurd he.symm hn
theorem Il {b:Bool} {v:V}:(abl b v=.yes→v=.bool b)∧(abl b v=.no→v=.bool (!b)∨v=.tuple []):=by
 cases v with
 |bool c=>cases b<;>cases c<;>exact ⟨fun h=>(by first|rfl|cases h),fun h=>(by first|exact .inl rfl|cases h)⟩
 |tuple l=>cases l with
  |nil=>exact ⟨fun h=>(by cases h),fun _=>.inr rfl⟩
  |cons a l=>exact ⟨fun h=>(by cases h),fun h=>(by cases h)⟩
 |_=>exact ⟨fun h=>(by cases h),fun h=>(by cases h)⟩
theorem aei (r:RX x e bZ bx fr lo) (he:(elseK x d k).f ih2 bZ bx h=o2) (hn:o2≠.fail):∃ pK bx',RX x (oK d e) pK bx' (eF fr d (.tuple [])) lo∧k.f ih2 pK bx' h=o2:=by
 cases d with
 |none=>exact ⟨bZ,bx,r,he⟩
 |some d =>
  simp only [elseK] at he
  cases hc:!(Nat.ble (Nat.succ d) x.nt&&Nat.ble (Nat.succ d) 216) with
  |true=>rw [hc] at he;exact absurd he.symm hn
  |false =>
   rw [hc] at he
   simp only [Bool.not_eq_false',au,Nat.ble_eq] at hc
   simp only [cond_false] at he
   cases hb:oO x.B d with
   |true =>
    rw [hb] at he
    simp only [cond_true] at he
    rw [EC] at he
    exact ⟨_,_,r.pass hb hc.1,he⟩
   |false =>
    rw [hb] at he
    exact ⟨_,bx,r.set hb hc.1 (.inl rfl),he⟩
theorem axZ (v w:V):eqX v w=true→mY v w=true:=by
 let Q:List V→List V→Bool:=fun l=>V.rec_1 (motive_1:=fun _=>V→Bool) (motive_2:=fun _=>List V→Bool)
  (fun _=>false)
  (fun a y=>match y with|.bool b=>(bif a then b else !b)|_=>false)
  (fun k a y=>match y with|.int l b=>eqK k l&&vZ a b|_=>false)
  (fun a y=>match y with|.str b=>IW a b|_=>false)
  (fun y=>match y with|.nilPtr=>true|_=>false)
  (fun _ _ _=>false)
  (fun a b y=>match y with|.dF c d=>Nat.beq a c&&Nat.beq b d|_=>false)
  (fun _ ih y=>match y with|.gX b=>ih b|_=>false)
  (fun y=>match y with|.aj=>true|_=>false)
  (fun _ x ih y=>match y with|.list b z=>(bif x then z else !z)&&ih b|_=>false)
  (fun a b c x d y=>match y with|.hsl a' b' c' x' d'=>Nat.beq a a'&&Nat.beq b b'&&Nat.beq c c'&&Nat.beq d d'&&eqO x x'|_=>false)
  (fun y=>match y with|.dV=>true|_=>false)
  (fun a y=>match y with|.map b=>Nat.beq a b|_=>false)
  (fun y=>match y with|.nilFunc=>true|_=>false)
  (fun fn _ _ iha ihb y=>match fn,y with|.func f,.func (.func g) c d=>Nat.beq f g&&iha c&&ihb d|_,_=>false)
  (fun y=>match y with|.nilIface=>true|_=>false)
  (fun t _ ih y=>match y with|.iface u b=>Nat.beq t u&&ih b|_=>false)
  (fun _ ih y=>match y with|.agg b=>ih b|_=>false)
  (fun _ ih y=>match y with|.tuple b=>ih b|_=>false)
  (fun ys=>match ys with|[]=>true|_::_=>false)
  (fun _ _ ihv ihl ys=>match ys with|[]=>false|y::ys=>bif ihv y then ihl ys else false) l
 revert w
 refine V.rec (motive_1:=fun v=>∀ w,eqX v w=true→mY v w=true) (motive_2:=fun l=>∀ m,Q l m=true→xu l m=true) ?_ ?_ ?_ ?_ ?_ ?_ ?_ ?_ ?_ ?_ ?_ ?_ ?_ ?_ ?_ ?_ ?_ ?_ ?_ ?_ ?_ v
 ·intro w hq;cases hq
 ·intro a w hq;cases w<;>first|(cases hq;done)|(simp only [mY];exact hq)
 ·intro k a w hq;cases w<;>first|(cases hq;done)|(simp only [mY];exact hq)
 ·intro s w hq;cases w<;>first|(cases hq;done)|(simp only [mY];rw [←L9];exact hq)
 ·intro w hq;cases w<;>first|(cases hq;done)|simp only [mY]
 ·intro a b w hq;cases hq
 ·intro a b w hq;cases w<;>first|(cases hq;done)|(simp only [mY];exact hq)
 ·intro l ih w hq;cases w<;>first|(cases hq;done)|(simp only [mY];exact ih _ hq)
 ·intro w hq;cases w<;>first|(cases hq;done)|simp only [mY]
 ·intro l y ih w hq
  cases w<;>first|(cases hq;done)|skip
  rename_i b z
  have hq:((bif y then z else !z)&&Q l b)=true:=hq
  rw [au] at hq
  simp only [mY,au]
  exact ⟨hq.1,ih _ hq.2⟩
 ·intro a b c y d w hq;cases w<;>first|(cases hq;done)|(simp only [mY];exact hq)
 ·intro w hq;cases w<;>first|(cases hq;done)|simp only [mY]
 ·intro a w hq;cases w<;>first|(cases hq;done)|(simp only [mY];exact hq)
 ·intro w hq;cases w<;>first|(cases hq;done)|simp only [mY]
 ·intro fn a b iha ihb w hq
  cases fn<;>cases w<;>first|(cases hq;done)|skip
  rename_i f fn' c d
  cases fn'<;>first|(cases hq;done)|skip
  rename_i g
  have hq:(Nat.beq f g&&Q a c&&Q b d)=true:=hq
  simp only [au] at hq
  simp only [mY,au]
  exact ⟨⟨hq.1.1,iha _ hq.1.2⟩,ihb _ hq.2⟩
 ·intro w hq;cases w<;>first|(cases hq;done)|simp only [mY]
 ·intro t a ih w hq
  cases w<;>first|(cases hq;done)|skip
  rename_i u b
  have hq:(Nat.beq t u&&eqX a b)=true:=hq
  rw [au] at hq
  simp only [mY,au]
  exact ⟨hq.1,ih _ hq.2⟩
 ·intro l ih w hq;cases w<;>first|(cases hq;done)|(simp only [mY];exact ih _ hq)
 ·intro l ih w hq;cases w<;>first|(cases hq;done)|(simp only [mY];exact ih _ hq)
 ·intro m hq;cases m<;>first|(cases hq;done)|simp only [xu]
 ·intro a l iha ihl m hq
  cases m with
  |nil=>cases hq
  |cons b m =>
   have hq:(bif eqX a b then Q l m else false)=true:=hq
   cases h1:eqX a b with
   |false=>rw [h1] at hq;cases hq
   |true =>
    rw [h1] at hq
    simp only [xu,au]
    exact ⟨iha _ h1,ihl _ hq⟩
theorem axY (t o:Nat) (w:V):eqX (.bf t o) w=false:=rfl
theorem anz (t o:Nat) (w:V):eqX w (.bf t o)=false:=by cases w<;>first|rfl|(rename_i fn _ _;cases fn<;>rfl)
theorem aes {a b c d:V} (h1:RV a b) (h2:RV c d) (hq:eqX a c=true):mY b d=true:=by
 rcases h1 with rfl|⟨⟨t,o,rfl⟩,_⟩
 ·rcases h2 with rfl|⟨⟨t,o,rfl⟩,_⟩
  ·exact axZ _ _ hq
  ·rw [anz] at hq;cases hq
 ·rw [axY] at hq;cases hq
theorem Zf {t:Nat} (r:RX x e bZ bx fr lo) (hg:BU fr g) (he:(amW x e g t o k).f ih2 bZ bx h=o2) (hn:o2≠.fail):fC t o fr lo h=true∧k.f ih2 bZ bx h=o2:=by
 unfold amW at he
 cases hc:Vy x t with
 |false=>rw [hc] at he;exact absurd he.symm hn
 |true =>
  rw [hc] at he
  dsimp only [cond_true] at he
  cases hw:YU x e g o with
  |none=>rw [hw] at he;exact absurd he.symm hn
  |some p =>
   rw [hw] at he
   obtain ⟨v,h1,hv,he⟩:=oxR he hn
   obtain ⟨hb,he⟩:=L8 he hn
   obtain ⟨_,v',hev,Lc⟩:=aam r hg hw hv t
   refine ⟨?_,he⟩
   unfold fC
   rw [hev]
   exact aes Lc (r.val t hc) hb
theorem amX {t:Nat} (r:RX x e bZ bx fr lo) (he:(axu x e g t o k).f ih2 bZ bx h=o2) (hn:o2≠.fail):iM g t o fr lo h=true∧k.f ih2 bZ bx h=o2:=by
 cases g with
 |none=>exact Zf (g:=none) r trivial he hn
 |some p =>
  obtain ⟨s,b⟩:=p
  simp only [axu] at he
  cases hc:(Vy x s&&Vy x t) with
  |false=>rw [hc] at he;exact absurd he.symm hn
  |true =>
   rw [hc] at he
   simp only [au] at hc
   simp only [cond_true] at he
   cases hv:abl b ((sg s).f bZ) with
   |fail=>rw [hv] at he;exact absurd he.symm hn
   |yes =>
    rw [hv] at he
    have hs:=Il.1 hv
    have hl:aO fr s=.bool b:=by
     rcases r.val s hc.1 with hq|⟨⟨t,o,hq⟩,_⟩
     ·rw [←hq,hs]
     ·rw [hq] at hs;cases hs
    obtain ⟨q1,q2⟩:=Zf (g:=some (s,b)) r hl he hn
    refine ⟨?_,q2⟩
    simp only [iM,hl]
    cases b<;>exact q1
   |no =>
    rw [hv] at he
    obtain ⟨hb,he⟩:=L8 he hn
    refine ⟨?_,he⟩
    have hs:=Il.2 hv
    have hq2:mY (.tuple []) (aO fr t)=true:=aes (.inl rfl) (r.val t hc.2) hb
    have hl:aO fr s=(sg s).f bZ:=by
     rcases r.val s hc.1 with hq|⟨⟨t,o,hq⟩,_⟩
     ·exact hq.symm
     ·rw [hq] at hs;rcases hs with hs|hs<;>cases hs
    rcases hs with hs|hs
    ·simp only [iM,hl,hs]
     cases b<;>exact hq2
    ·simp only [iM,hl,hs]
     exact hq2
theorem ahh (hi:Fe mm fns ih2) {i:Ins} {dr:Bool} (r:RX x e bZ bx fr lo) (he:(U8 x dr e i k).f ih2 bZ bx h=o2) (hn:o2≠.fail) :
  ∃ pK bx' h' fr' lo',RX x (Wq x e i) pK bx' fr' lo'∧k.f ih2 pK bx' h'=o2∧∀ os o,EvL mm fns dr os fr' lo' h' o→EvL mm fns dr (i::os) fr lo h o:=by
 have plain:afR i=true→(∀ ih os,jQ ih os i=qK ih os i)→(Xb x e none i k).f ih2 bZ bx h=o2→Wq x e i=aAt x e none i →
   ∃ pK bx' h' fr' lo',RX x (Wq x e i) pK bx' fr' lo'∧k.f ih2 pK bx' h'=o2∧∀ os o,EvL mm fns dr os fr' lo' h' o→EvL mm fns dr (i::os) fr lo h o:=by
  intro hi1 hi2 he hen
  obtain ⟨a,b,c,f,l,h1,h2,h3⟩:=Zr hi (g:=none) r trivial he hn
  refine ⟨a,b,c,f,l,by rw [hen];exact h2,h3,fun os o ho=>EvL.cons hi1 ?_ ho⟩
  simpa only [hi2] using h1
 cases i with
 |op d o=>exact plain rfl (fun _ _=>rfl) he rfl
 |call d f as=>exact plain rfl (fun _ _=>rfl) he rfl
 |dyn d f as=>exact plain rfl (fun _ _=>rfl) he rfl
 |defer ids f as=>exact plain rfl (fun _ _=>rfl) he rfl
 |chk g t o =>
  simp only [U8] at he
  cases dr with
  |false=>exact absurd he.symm hn
  |true =>
   obtain ⟨q1,q2⟩:=amX r he hn
   exact ⟨bZ,bx,h,fr,lo,r,q2,fun os o ho=>EvL.chk q1 ho⟩
 |grd t b d i =>
  simp only [U8] at he
  cases hc:Vy x t with
  |false=>rw [hc] at he;exact absurd he.symm hn
  |true =>
   rw [hc] at he
   simp only [cond_true] at he
   cases hv:abl b ((sg t).f bZ) with
   |fail=>rw [hv] at he;exact absurd he.symm hn
   |yes =>
    rw [hv] at he
    have hs:=Il.1 hv
    have hl:aO fr t=.bool b:=by
     rcases r.val t hc with hq|⟨⟨t,o,hq⟩,_⟩
     ·rw [←hq,hs]
     ·rw [hq] at hs;cases hs
    obtain ⟨a,b2,c,f,l,h1,h2,h3⟩:=Zr hi (g:=some (t,b)) (r.oK (d:=d)) hl he hn
    refine ⟨a,b2,c,f,l,?_,h3,fun os o ho=>EvL.cons rfl ?_ ho⟩
    ·cases i with
     |op d' o=>exact h2
     |defer ids f as=>exact h2
     |call d' f as=>exact h2.sub fun n hq=>Du hq
     |dyn d' f as=>exact h2.sub fun n hq=>Du hq
     |_=>exact absurd he.symm hn
    ·obtain ⟨N,hN⟩:=h1
     refine ⟨N,fun m hm ih i1 i2 os=>?_⟩
     have:=hN m hm ih i1 i2 os
     simp only [jQ,qP,hl]
     cases b<;>exact this
   |no =>
    rw [hv] at he
    have hs:=Il.2 hv
    have hl:aO fr t=(sg t).f bZ:=by
     rcases r.val t hc with hq|⟨⟨t,o,hq⟩,_⟩
     ·exact hq.symm
     ·rw [hq] at hs;rcases hs with hs|hs<;>cases hs
    obtain ⟨a,b2,h2,h3⟩:=aei r he hn
    refine ⟨a,b2,h,eF fr d (.tuple []),lo,?_,h3,fun os o ho=>EvL.cons rfl ⟨0,fun m _ ih _ _ os=>?_⟩ ho⟩
    ·have hne:aO (eF fr d (.tuple [])) t≠.bool b:=by
      have h0:aO fr t≠.bool b:=by
       rw [hl]
       rcases hs with hs|hs<;>rw [hs]
       ·cases b<;>(intro hq;cases hq)
       ·intro hq;cases hq
      cases d with
      |none=>exact h0
      |some d =>
       simp only [eF]
       rw [dR]
       split
       ·intro hq;cases hq
       ·exact h0
     refine ⟨h2.cap,h2.len,h2.val,h2.box,fun n hq hg=>?_,h2.mrk⟩
     cases i with
     |op d' o =>
      cases d' with
      |none=>exact h2.ent n hq hg
      |some d' =>
       simp only [Wq,Oy] at hq
       split at hq
       ·rename_i t' off' _
        cases hb:(Nat.beq t' d'||gOf (some (t,b)) d') with
        |true=>rw [hb] at hq;exact h2.ent n (kE hq).1 hg
        |false =>
         rw [hb] at hq
         rcases List.mem_cons.1 hq with rfl|hq
         ·exact absurd hg hne
         ·exact h2.ent n (kE hq).1 hg
       ·exact h2.ent n (kE hq).1 hg
     |defer ids f as=>exact h2.ent n (by simpa [Wq,oK,Ins.dst] using hq) hg
     |call d' f as=>exact h2.ent n (Bz hq) hg
     |dyn d' f as=>exact h2.ent n (Bz hq) hg
     |grd t' b' d' i'=>exact h2.ent n (Bz hq) hg
     |chk g' t' o'=>exact h2.ent n (Bz hq) hg
    ·simp only [jQ,qP,hl]
     rcases hs with hs|hs<;>rw [hs]
     cases b<;>rfl
end
section
open Go
variable {mm:iO} {fns:Nat→Option ak} {x:Cx} {e:List wY} {bZ pK:Fr} {bx bx':Bx} {fr fr':List V} {lo lo':Lo} {h h':H} {v v':V} {d:Option Nat} {t off:Nat} {g:Gd} {k:K2} {ih2:Y3} {o2:jw} {o:l7}
theorem EvL.nil {dr:Bool}:EvL mm fns dr [] fr lo h (.norm fr lo h):=by
 cases dr with
 |false=>exact Ev.of ⟨0,fun m _=>rfl⟩
 |true=>exact ⟨0,fun m _=>rfl⟩
theorem afx (hi:Fe mm fns ih2) {dr:Bool}:∀ (l:List Ins) {e:List wY} {bZ:Fr} {bx:Bx} {h:H} {fr:List V} {lo:Lo},RX x e bZ bx fr lo→(li x dr l e).f ih2 bZ bx h=o2→o2≠.fail →
  ∃ pK bx' h' fr' lo',o2=.norm pK bx' h'∧RX x [] pK bx' fr' lo'∧EvL mm fns dr l fr lo h (.norm fr' lo' h')
 |[],e,bZ,bx,h,fr,lo,r,he,hn=>⟨bZ,bx,h,fr,lo,he.symm,r.sub (fun _ hq=>(by cases hq)),EvL.nil⟩
 |i::l,e,bZ,bx,h,fr,lo,r,he,hn=>by
  have he:(U8 x dr e i (li x dr l (Wq x e i))).f ih2 bZ bx h=o2:=he
  obtain ⟨a,b,c,f,lo2,h1,h2,h3⟩:=ahh hi r he hn
  obtain ⟨a2,b2,c2,f2,lo3,k1,k2,k3⟩:=afx hi l h1 h2 hn
  exact ⟨a2,b2,c2,f2,lo3,k1,k2,h3 l _ k3⟩
theorem TK:∀ fr:List V,nT fr=fr.map H6
 |[]=>rfl
 |v::fr=>by
  simp only [nT,List.map_cons,TK fr]
  cases v<;>rfl
theorem Zz (bZ:Fr):∀ (n i:Nat) (l:List V),l.length=n→(∀ j,j<n→H6 ((sg (i+j)).f bZ)=H6 (aO l j)) →
  (Nat.rec (motive:=fun _=>Nat→List V) (fun _=>[]) (fun _ ih i=>H6 ((sg i).f bZ)::ih (Nat.succ i)) n i)=l.map H6
 |0,i,l,hl,_=>by
  cases l with
  |nil=>rfl
  |cons a l=>cases hl
 |n+1,i,l,hl,hq=>by
  cases l with
  |nil=>cases hl
  |cons a l =>
   have h0:=hq 0 (by omega)
   have ih:=Zz bZ n (i+1) l (by simpa using hl) (fun j hj=>by
    have:=hq (j+1) (by omega)
    rw [iL] at this
    rw [←this]
    congr 2
    rw [show i+1+j=i+(j+1) by omega])
   simp only [List.map_cons]
   rw [←ih]
   rw [kF] at h0
   rw [←h0]
   rfl
theorem aoD (r:RX x e bZ bx fr lo) (hrf:x.rf=true):aBB x.nt bZ=nT fr:=by
 rw [TK]
 exact Zz bZ x.nt 0 fr r.len (fun j hj=>by
  rw [Nat.zero_add]
  exact r.mrk hrf j (Nat.lt_of_lt_of_le hj r.cap))
theorem aC2 {K:Fr→Bx→H→jw} {o r:jw} (hq:(jw.rec (motive:=fun _=>jw) .fail K (fun j fr bx h=>.jump j fr bx h) (fun _ _=>.fail) o)=r) (hn:r≠.fail) :
  (∃ fr bx h,o=.norm fr bx h∧K fr bx h=r)∨∃ j fr bx h,o=.jump j fr bx h∧r=.jump j fr bx h:=by
 cases o with
 |fail=>exact absurd hq.symm hn
 |val v h=>exact absurd hq.symm hn
 |norm fr bx h=>exact .inl ⟨fr,bx,h,rfl,hq⟩
 |jump j fr bx h=>exact .inr ⟨j,fr,bx,h,rfl,hq.symm⟩
theorem acI (hi:Fe mm fns ih2) {f:aF} {ps:List Nat} {a b:aH} (r:RX x [] bZ bx fr lo) (he:(Ym x f ps a b).f ih2 bZ bx h=o2) (hn:o2≠.fail):∃ o,aau x o2 o∧Ev mm fns (.code (.rangeFunc f ps a b)) fr lo h o:=by
 unfold Ym at he
 cases hc:(zi x f.slots&&Nat.ble x.nt 216&&x.rf) with
 |false=>rw [hc] at he;exact absurd he.symm hn
 |true =>
  rw [hc] at he
  simp only [au] at hc
  simp only [cond_true] at he
  cases hf:(xo f).f bZ with
  |func fn first caps =>
   rw [hf] at he
   cases fn with
   |func q =>
    dsimp only at he
    have hfv:f.ev fr=.func (.func q) first caps:=by
     rcases r.ro hc.1.1 with hq|⟨⟨t,o,hq⟩,_⟩
     ·rw [←hq,hf]
     ·rw [hf] at hq;cases hq
    rw [aoD r hc.2] at he
    cases ho:ih2 (.call q (first++(.func (.yield h.next) [] []::caps))) zX bx0 (h.new (.loop ⟨0,none,nT fr,ps,a,b⟩)) with
    |val u h1 =>
     rw [ho] at he
     obtain ⟨N,hN⟩:=hi.call ho [] []
     have key:∃ o,aau x o2 o∧Dp h.next fr lo (.val u h1)=o:=by
      simp only [Zv] at he
      simp only [Dp]
      cases hg:getLoop h1 h.next with
      |none=>rw [hg] at he;exact absurd he.symm hn
      |some lp =>
       rw [hg] at he
       dsimp only at he ⊢
       cases hs:Nat.beq lp.st 1 with
       |true=>rw [hs] at he;exact absurd he.symm hn
       |false =>
        rw [hs] at he
        simp only [cond_false] at he ⊢
        cases hp:lp.pending with
        |none=>rw [hp] at he;subst he;exact ⟨.norm fr lo (h1.del h.next),⟨rfl,r⟩,rfl⟩
        |some j=>rw [hp] at he;subst he;exact ⟨.jump j fr lo (h1.del h.next),⟨rfl,rfl,r⟩,rfl⟩
     obtain ⟨o,ho1,ho2⟩:=key
     refine ⟨o,ho1,Ev.of ⟨N,fun m hm=>?_⟩⟩
     have:stepM mm fns (runM mm fns m) (.code (.rangeFunc f ps a b)) fr lo h=uI (runM mm fns m) f ps a b fr lo h:=rfl
     rw [this]
     simp only [uI,hfv]
     rw [hN m hm]
     exact ho2
    |_=>rw [ho] at he;exact absurd he.symm hn
   |_=>exact absurd he.symm hn
  |_=>rw [hf] at he;exact absurd he.symm hn
theorem Gw (hi:Fe mm fns ih2) (c:aH):∀ {bZ:Fr} {bx:Bx} {h:H} {o2:jw} {fr:List V} {lo:Lo},(cc x c).f ih2 bZ bx h=o2→o2≠.fail→RX x [] bZ bx fr lo→∃ o,aau x o2 o∧Ev mm fns (.code c) fr lo h o:=by
 induction c with
 |skip =>
  intro bZ bx h o2 fr lo he hn r
  subst he
  exact ⟨.norm fr lo h,⟨rfl,r⟩,Ev.of ⟨0,fun m _=>rfl⟩⟩
 |label l =>
  intro bZ bx h o2 fr lo he hn r
  subst he
  exact ⟨.norm fr lo h,⟨rfl,r⟩,Ev.of ⟨0,fun m _=>rfl⟩⟩
 |region ops =>
  intro bZ bx h o2 fr lo he hn r
  obtain ⟨a,b,c,f,l,h1,h2,N,hN⟩:=afx hi (dr:=false) ops r he hn
  subst h1
  exact ⟨.norm f l c,⟨rfl,h2⟩,Ev.of ⟨N,fun m hm=>hN m hm⟩⟩
 |draw ops =>
  intro bZ bx h o2 fr lo he hn r
  obtain ⟨a,b,c,f,l,h1,h2,N,hN⟩:=afx hi (dr:=true) ops r he hn
  subst h1
  refine ⟨.norm f l c,⟨rfl,h2⟩,Ev.of ⟨N+1,fun m hm=>?_⟩⟩
  obtain ⟨m,rfl⟩:∃ k,m=k+1:=⟨m-1,by omega⟩
  exact hN m (by omega)
 |seq a b iha ihb =>
  intro bZ bx h o2 fr lo he hn r
  rcases aC2 he hn with ⟨E5,bx3,h3,h1,h2⟩|⟨j,E5,bx3,h3,h1,h2⟩
  ·obtain ⟨oa,ra,N1,e1⟩:=iha h1 (by intro hq;cases hq) r
   cases oa with
   |norm ML Pn h4 =>
    obtain ⟨rfl,r4⟩:=ra
    obtain ⟨ob,rb,N2,e2⟩:=ihb h2 hn r4
    refine ⟨ob,rb,Ev.of ⟨N1+N2,fun m hm=>?_⟩⟩
    have:stepM mm fns (runM mm fns m) (.code (.seq a b)) fr lo h=vI (runM mm fns m) b (runM mm fns m (.code a) fr lo h):=rfl
    rw [this,e1 m (by omega)]
    exact e2 m (by omega)
   |_=>cases ra
  ·obtain ⟨oa,ra,N1,e1⟩:=iha h1 (by intro hq;cases hq) r
   subst h2
   cases oa with
   |jump j4 ML Pn h4 =>
    obtain ⟨rfl,rfl,r4⟩:=ra
    refine ⟨.jump j ML Pn h3,⟨rfl,rfl,r4⟩,Ev.of ⟨N1,fun m hm=>?_⟩⟩
    have:stepM mm fns (runM mm fns m) (.code (.seq a b)) fr lo h=vI (runM mm fns m) b (runM mm fns m (.code a) fr lo h):=rfl
    rw [this,e1 m hm]
    rfl
   |_=>cases ra
 |cond c a b iha ihb =>
  intro bZ bx h o2 fr lo he hn r
  have he:(bif zi x c.slots then (⟨fun ih fr bx h=>VB.rec .fail (fun t=>Bool.rec ((cc x b).f ih fr bx h) ((cc x a).f ih fr bx h) t) (EW ((xo c).f fr))⟩:K2) else failK).f ih2 bZ bx h=o2:=he
  cases hc:zi x c.slots with
  |false=>rw [hc] at he;exact absurd he.symm hn
  |true =>
   rw [hc] at he
   simp only [cond_true] at he
   cases hv:EW ((xo c).f bZ) with
   |no=>rw [hv] at he;exact absurd he.symm hn
   |yes t =>
    rw [hv] at he
    have hv2:=Gl hv
    have hcv:c.ev fr=.bool t:=by
     rcases r.ro hc with hq|⟨⟨t,o,hq⟩,_⟩
     ·rw [←hq,hv2]
     ·rw [hv2] at hq;cases hq
    cases t with
    |true =>
     obtain ⟨o,ro,N,e1⟩:=iha he hn r
     refine ⟨o,ro,Ev.of ⟨N,fun m hm=>?_⟩⟩
     have:stepM mm fns (runM mm fns m) (.code (.cond c a b)) fr lo h=Em (runM mm fns m) (c.ev fr) a b fr lo h:=rfl
     rw [this,hcv]
     exact e1 m hm
    |false =>
     obtain ⟨o,ro,N,e1⟩:=ihb he hn r
     refine ⟨o,ro,Ev.of ⟨N,fun m hm=>?_⟩⟩
     have:stepM mm fns (runM mm fns m) (.code (.cond c a b)) fr lo h=Em (runM mm fns m) (c.ev fr) a b fr lo h:=rfl
     rw [this,hcv]
     exact e1 m hm
 |block id c ihc =>
  intro bZ bx h o2 fr lo he hn r
  have he:(jw.rec (motive:=fun _=>jw) .fail (fun fr bx h=>.norm fr bx h) (fun j fr bx h=>ayp id j fr bx h) (fun _ _=>.fail) ((cc x c).f ih2 bZ bx h))=o2:=he
  cases ho:(cc x c).f ih2 bZ bx h with
  |fail=>rw [ho] at he;exact absurd he.symm hn
  |val v h=>rw [ho] at he;exact absurd he.symm hn
  |norm E5 bx3 h3 =>
   rw [ho] at he
   obtain ⟨oa,ra,N1,e1⟩:=ihc ho (by intro hq;cases hq) r
   subst he
   cases oa with
   |norm ML Pn h4 =>
    refine ⟨.norm ML Pn h4,ra,Ev.of ⟨N1,fun m hm=>?_⟩⟩
    have:stepM mm fns (runM mm fns m) (.code (.block id c)) fr lo h=mP id (runM mm fns m (.code c) fr lo h):=rfl
    rw [this,e1 m hm]
    rfl
   |_=>cases ra
  |jump j E5 bx3 h3 =>
   rw [ho] at he
   obtain ⟨oa,ra,N1,e1⟩:=ihc ho (by intro hq;cases hq) r
   cases oa with
   |jump j4 ML Pn h4 =>
    obtain ⟨rfl,rfl,r4⟩:=ra
    refine ⟨mP id (.jump j ML Pn h3),?_,Ev.of ⟨N1,fun m hm=>?_⟩⟩
    ·subst he
     cases j with
     |exit i =>
      simp only [mP,ayp]
      cases Nat.beq i id with
      |true=>exact ⟨rfl,r4⟩
      |false=>exact ⟨rfl,rfl,r4⟩
     |_=>exact ⟨rfl,rfl,r4⟩
    ·have:stepM mm fns (runM mm fns m) (.code (.block id c)) fr lo h=mP id (runM mm fns m (.code c) fr lo h):=rfl
     rw [this,e1 m hm]
   |_=>cases ra
 |loop c ihc =>
  intro bZ bx h o2 fr lo he hn r
  rcases aC2 he hn with ⟨E5,bx3,h3,h1,h2⟩|⟨j,E5,bx3,h3,h1,h2⟩
  ·obtain ⟨oa,ra,N1,e1⟩:=ihc h1 (by intro hq;cases hq) r
   cases oa with
   |norm ML Pn h4 =>
    obtain ⟨rfl,r4⟩:=ra
    obtain ⟨ob,rb,N2,e2⟩:=hi.code h2 hn r4
    refine ⟨ob,rb,Ev.of ⟨N1+N2,fun m hm=>?_⟩⟩
    have:stepM mm fns (runM mm fns m) (.code (.loop c)) fr lo h=vI (runM mm fns m) (.loop c) (runM mm fns m (.code c) fr lo h):=rfl
    rw [this,e1 m (by omega)]
    exact e2 m (by omega)
   |_=>cases ra
  ·obtain ⟨oa,ra,N1,e1⟩:=ihc h1 (by intro hq;cases hq) r
   subst h2
   cases oa with
   |jump j4 ML Pn h4 =>
    obtain ⟨rfl,rfl,r4⟩:=ra
    refine ⟨.jump j ML Pn h3,⟨rfl,rfl,r4⟩,Ev.of ⟨N1,fun m hm=>?_⟩⟩
    have:stepM mm fns (runM mm fns m) (.code (.loop c)) fr lo h=vI (runM mm fns m) (.loop c) (runM mm fns m (.code c) fr lo h):=rfl
    rw [this,e1 m hm]
    rfl
   |_=>cases ra
 |rangeFunc f ps a b _ _ =>
  intro bZ bx h o2 fr lo he hn r
  exact acI hi r he hn
 |exit id =>
  intro bZ bx h o2 fr lo he hn r
  subst he
  exact ⟨.jump (.exit id) fr lo h,⟨rfl,rfl,r⟩,Ev.of ⟨0,fun m _=>rfl⟩⟩
 |scope c _ =>
  intro bZ bx h o2 fr lo he hn r
  obtain ⟨o,ro,N,e1⟩:=hi.scope he hn r
  exact ⟨o,ro,Ev.of ⟨N,fun m hm=>e1 m hm⟩⟩
 |goto l =>
  intro bZ bx h o2 fr lo he hn r
  subst he
  exact ⟨.jump (.goto l) fr lo h,⟨rfl,rfl,r⟩,Ev.of ⟨0,fun m _=>rfl⟩⟩
 |ret =>
  intro bZ bx h o2 fr lo he hn r
  subst he
  exact ⟨.jump .ret fr lo h,⟨rfl,rfl,r⟩,Ev.of ⟨0,fun m _=>rfl⟩⟩
theorem acU (hi:Fe mm fns ih2) {c rc:aH} (r:RX x [] bZ bx fr lo) (he:(ag0 x c rc).f ih2 bZ bx h=o2) (hn:o2≠.fail):∃ o,aau x o2 o∧Ev mm fns (.scope c rc) fr lo h o:=by
 have he:(jw.rec (motive:=fun _=>jw) .fail (fun fr bx h=>.norm fr bx h)
  (fun j fr bx h=>Jump.rec (.jump j fr bx h) (fun _=>.jump j fr bx h) (fun l=>match findLabel c l with|some r=>ih2 (.scope x c r) fr bx h|none=>.jump j fr bx h) j) (fun _ _=>.fail) ((cc x rc).f ih2 bZ bx h))=o2:=he
 cases ho:(cc x rc).f ih2 bZ bx h with
 |fail=>rw [ho] at he;exact absurd he.symm hn
 |val v h=>rw [ho] at he;exact absurd he.symm hn
 |norm E5 bx3 h3 =>
  rw [ho] at he
  obtain ⟨oa,ra,N1,e1⟩:=Gw hi rc ho (by intro hq;cases hq) r
  subst he
  cases oa with
  |norm ML Pn h4 =>
   refine ⟨.norm ML Pn h4,ra,Ev.of ⟨N1,fun m hm=>?_⟩⟩
   have:stepM mm fns (runM mm fns m) (.scope c rc) fr lo h=pO (runM mm fns m) c (runM mm fns m (.code rc) fr lo h):=rfl
   rw [this,e1 m hm]
   rfl
  |_=>cases ra
 |jump j E5 bx3 h3 =>
  rw [ho] at he
  obtain ⟨oa,ra,N1,e1⟩:=Gw hi rc ho (by intro hq;cases hq) r
  have hst:∀ m,stepM mm fns (runM mm fns m) (.scope c rc) fr lo h=pO (runM mm fns m) c (runM mm fns m (.code rc) fr lo h):=fun _=>rfl
  cases oa with
  |jump j4 ML Pn h4 =>
   obtain ⟨rfl,rfl,r4⟩:=ra
   cases j with
   |goto l =>
    dsimp only at he
    cases hf:findLabel c l with
    |none =>
     rw [hf] at he
     subst he
     refine ⟨.jump (.goto l) ML Pn h3,⟨rfl,rfl,r4⟩,Ev.of ⟨N1,fun m hm=>?_⟩⟩
     rw [hst,e1 m hm]
     simp only [pO,hf]
    |some r' =>
     rw [hf] at he
     obtain ⟨ob,rb,N2,e2⟩:=hi.scope he hn r4
     refine ⟨ob,rb,Ev.of ⟨N1+N2,fun m hm=>?_⟩⟩
     rw [hst,e1 m (by omega)]
     simp only [pO,hf]
     exact e2 m (by omega)
   |ret =>
    subst he
    refine ⟨.jump .ret ML Pn h3,⟨rfl,rfl,r4⟩,Ev.of ⟨N1,fun m hm=>?_⟩⟩
    rw [hst,e1 m hm]
    rfl
   |exit i =>
    subst he
    refine ⟨.jump (.exit i) ML Pn h3,⟨rfl,rfl,r4⟩,Ev.of ⟨N1,fun m hm=>?_⟩⟩
    rw [hst,e1 m hm]
    rfl
  |_=>cases ra
end
section
open Go
variable {mm:iO} {fns:Nat→Option ak} {x:Cx} {e:List wY} {bZ pK:Fr} {bx bx':Bx} {fr fr':List V} {lo lo':Lo} {h h':H} {v v':V} {d:Option Nat} {t off:Nat} {g:Gd} {k:K2} {ih2:Y3} {o2:jw} {o:l7}
theorem anP (l:List V) (i:Nat) {a:Nat} (ha:a<6):(g6 a).f (EF l i)=aO l (i+a):=by
 have h1:a=0∨a=1∨a=2∨a=3∨a=4∨a=5:=by omega
 rcases h1 with rfl|rfl|rfl|rfl|rfl|rfl<;>rfl
theorem anQ (l:List V) (i:Nat) {a:Nat} (ha:a<6):(g6 a).f (H7 l i)=EF l (i+6*a):=by
 have h1:a=0∨a=1∨a=2∨a=3∨a=4∨a=5:=by omega
 rcases h1 with rfl|rfl|rfl|rfl|rfl|rfl<;>rfl
theorem ax9 (l:List V) {a:Nat} (ha:a<6):(g6 a).f (ofL l)=H7 l (36*a):=by
 have h1:a=0∨a=1∨a=2∨a=3∨a=4∨a=5:=by omega
 rcases h1 with rfl|rfl|rfl|rfl|rfl|rfl<;>rfl
theorem ag5 (l:List V) {s:Nat} (hs:s<216):(sg s).f (ofL l)=aO l s:=by
 simp only [sg]
 rw [ax9 l (show s / 36<6 by omega),anQ _ _ (show s / 6%6<6 by omega),anP _ _ (show s%6<6 by omega)]
 congr 1
 omega
theorem vJ:∀ (l:List V) {i:Nat},l.length≤i→aO l i=.undef
 |[],i,_=>rfl
 |a::l,0,hi=>by simp at hi
 |a::l,i+1,hi=>by rw [iL];exact vJ l (by simpa using hi)
theorem xM (l:List V) {i:Nat} (hi:l.length≤i):EF l i=oN .undef:=by
 simp only [EF,oN,vJ l hi,vJ l (show l.length≤i+1 by omega),vJ l (show l.length≤i+2 by omega),vJ l (show l.length≤i+3 by omega),vJ l (show l.length≤i+4 by omega),vJ l (show l.length≤i+5 by omega)]
theorem Ap (l:List V) {i:Nat} (hi:l.length≤i):H7 l i=oN (oN .undef):=by
 have:=fun k=>xM l (show l.length≤i+k by omega)
 simp only [H7,xM l hi,this]
 rfl
theorem ae5 {as:List V} (ha:as.length≤12):ae4 as=ofL as:=by
 simp only [ae4,ofL]
 rw [Ap as (show as.length≤36 by omega),Ap as (show as.length≤72 by omega),Ap as (show as.length≤108 by omega),Ap as (show as.length≤144 by omega),Ap as (show as.length≤180 by omega)]
 have:H7 as 0=⟨EF as 0,EF as 6,oN .undef,oN .undef,oN .undef,oN .undef⟩:=by
  simp only [H7,Nat.zero_add]
  rw [xM as (show as.length≤12 by omega),xM as (show as.length≤18 by omega),xM as (show as.length≤24 by omega),xM as (show as.length≤30 by omega)]
 rw [this]
theorem amS (t:Nat):(sg t).f bx0=[]:=azm _ _
theorem RX.start {n B P:Nat} {rf:Bool} {l:List V} {as:List V} (hl:l.length=n) (hn:n≤216) (hq:∀ s,s<216→aO as s=aO l s):RX ⟨n,B,P,rf⟩ [] (ofL as) bx0 l lo where
 cap:=hn
 len:=hl
 val s hs:=by
  have:=(J9 hs).2.2
  rw [ag5 _ this,hq s this]
  exact .inl rfl
 box t ht _ hne:=absurd (amS t) hne
 ent n hn _:=by cases hn
 mrk _ s hs:=by rw [ag5 _ hs,hq s hs]
theorem adx (hi:Fe mm fns ih2) {l:Nat} {args:List V} (he:Y1 ih2 l args h=.val v h'):∃ N,∀ m,N≤m→rW (runM mm fns m) l args h=.val v h':=by
 unfold Y1 at he
 cases hl:getLoop h l with
 |none=>rw [hl] at he;cases he
 |some lp =>
  rw [hl] at he
  dsimp only at he
  cases hp:sK lp.params args lp.fr with
  |none=>rw [hp] at he;cases he
  |some fr =>
   rw [hp] at he
   dsimp only at he
   cases hc:(Nat.beq lp.st 0&&Nat.ble fr.length 216) with
   |false=>rw [hc] at he;cases he
   |true =>
    rw [hc] at he
    simp only [au,Nat.ble_eq] at hc
    simp only [cond_true] at he
    generalize hbp:xX lp.body (xX lp.assign (0,0))=bp at he
    obtain ⟨b,p⟩:=bp
    dsimp only at he
    have r0:RX ⟨fr.length,b,p,xw lp.body⟩ [] (ofL fr) bx0 fr []:=RX.start rfl hc.2 fun _ _=>rfl
    cases ha:(cc ⟨fr.length,b,p,xw lp.body⟩ lp.assign).f ih2 (ofL fr) bx0 h with
    |norm E5 bx3 h3 =>
     rw [ha] at he
     dsimp only at he
     obtain ⟨oa,ra,N1,e1⟩:=Gw hi lp.assign ha (by intro hq;cases hq) r0
     cases oa with
     |norm ML Pn h4 =>
      obtain ⟨rfl,r4⟩:=ra
      cases hl2:getLoop h3 l with
      |none=>rw [hl2] at he;cases he
      |some lp2 =>
       rw [hl2] at he
       dsimp only at he
       cases hs2:Nat.beq lp2.st 0 with
       |false=>rw [hs2] at he;cases he
       |true =>
        rw [hs2] at he
        simp only [cond_true] at he
        cases hb:(cc ⟨fr.length,b,p,xw lp.body⟩ lp.body).f ih2 E5 bx3 (setSt l 1 lp2.pending lp2 h3) with
        |norm fr5 bx5 h5 =>
         rw [hb] at he
         dsimp only at he
         obtain ⟨ob,rb,N2,e2⟩:=Gw hi lp.body hb (by intro hq;cases hq) r4
         cases ob with
         |norm fr6 lo6 h6 =>
          obtain ⟨rfl,_⟩:=rb
          refine ⟨N1+N2,fun m hm=>?_⟩
          simp only [rW,hl,hc.1,cond_true,hp]
          rw [e1 m (by omega)]
          simp only [Dq,hl2,hs2,cond_true]
          rw [e2 m (by omega)]
          simp only [um]
          cases hl3:getLoop h5 l with
          |none=>rw [hl3] at he;cases he
          |some lp3=>rw [hl3] at he;cases he;rfl
         |_=>cases rb
        |jump j fr5 bx5 h5 =>
         rw [hb] at he
         dsimp only at he
         obtain ⟨ob,rb,N2,e2⟩:=Gw hi lp.body hb (by intro hq;cases hq) r4
         cases ob with
         |jump j6 fr6 lo6 h6 =>
          obtain ⟨rfl,rfl,_⟩:=rb
          refine ⟨N1+N2,fun m hm=>?_⟩
          simp only [rW,hl,hc.1,cond_true,hp]
          rw [e1 m (by omega)]
          simp only [Dq,hl2,hs2,cond_true]
          rw [e2 m (by omega)]
          simp only [um]
          cases hl3:getLoop h5 l with
          |none=>rw [hl3] at he;cases he
          |some lp3=>rw [hl3] at he;cases he;rfl
         |_=>cases rb
        |_=>rw [hb] at he;cases he
     |_=>cases ra
    |_=>rw [ha] at he;cases he
theorem amL (hi:Fe mm fns ih2) {f:V} {args:List V} (he:aAk ih2 f args h=.val v h') (fr:List V) (lo:Lo):Ev mm fns (.app f args) fr lo h (.val v h'):=by
 cases f with
 |func fn first caps =>
  cases fn with
  |func q =>
   obtain ⟨N,hN⟩:=hi.call he fr lo
   exact Ev.of ⟨N,fun m hm=>hN m hm⟩
  |yield l =>
   cases first with
   |nil =>
    obtain ⟨N,hN⟩:=adx hi (l:=l) (args:=args) he
    exact Ev.of ⟨N,fun m hm=>hN m hm⟩
   |cons a b=>cases he
  |_=>cases he
 |_=>cases he
theorem ao5 {α β:Type} {K:α→Option β} {o:Option α} {r:β} (hq:(Option.rec (motive:=fun _=>Option β) none K o)=some r):∃ a,o=some a∧K a=some r:=by
 cases o with
 |none=>cases hq
 |some a=>exact ⟨a,rfl,hq⟩
theorem afL (ag:Bool) (o:Option (List V)):(mkW ag).f o=mk ag o:=by
 cases ag with
 |false=>rfl
 |true=>cases o<;>rfl
theorem ZY:∀ {rs:List (Nat×Bool×Bool×Nat)} {vs:List V},RX x e bZ bx fr lo→(UC x rs).f bZ bx h=some vs→resV fr lo h rs=some vs
 |[],vs,_,hq=>by cases hq;rfl
 |(t,Jy,ag,sz)::rs,vs,r,hq=>by
  have fin:∀ {v:V},Bool.rec (motive:=fun _=>Option (List V)) (Option.rec none (fun vs=>some (v::vs)) ((UC x rs).f bZ bx h)) none (NY v)=some vs→bY v=false∧∃ us,resV fr lo h rs=some us∧v::us=vs:=by
   intro v hq
   cases hv:NY v with
   |true=>rw [hv] at hq;cases hq
   |false =>
    rw [hv] at hq
    obtain ⟨us,hus,hq⟩:=ao5 hq
    cases hq
    exact ⟨by rw [←aht];exact hv,us,ZY r hus,rfl⟩
  cases Jy with
  |true =>
   simp only [UC,cond_true] at hq
   simp only [resV,cond_true]
   cases ht:okT x t with
   |true =>
    rw [ht] at hq
    simp only [cond_true] at hq
    obtain ⟨hb,ht2⟩:=Yd ht
    cases hbx:(sg t).f bx with
    |nil=>rw [hbx] at hq;cases hq
    |cons c cs =>
     rw [hbx] at hq
     obtain ⟨v,hv,hq⟩:=ao5 hq
     obtain ⟨n1,us,h1,h2⟩:=fin hq
     rw [afL,A8] at hv
     have hbox:=r.box t ht2 hb (by rw [hbx];simp)
     rw [hbx] at hbox
     simp only [hbox.1,bg,hbox.2]
     rw [show skip 0 (c::cs)=c::cs from rfl,hv]
     simp only [n1,cond_false,h1,h2]
   |false =>
    rw [ht] at hq
    simp only [cond_false] at hq
    cases hr:Vy x t with
    |false=>rw [hr] at hq;cases hq
    |true =>
     rw [hr] at hq
     simp only [cond_true] at hq
     obtain ⟨cs,hcs,hq⟩:=ao5 hq
     obtain ⟨v,hv,hq⟩:=ao5 hq
     obtain ⟨n1,us,h1,h2⟩:=fin hq
     rw [afL,A8] at hv
     have hc:bg (aO fr t) lo h=some cs:=Fv (a:=.tmp t) (r.val t hr) hcs
     simp only [hc,hv,n1,cond_false,h1,h2]
  |false =>
   simp only [UC,cond_false] at hq
   simp only [resV,cond_false]
   cases hr:Vy x t with
   |false=>rw [hr] at hq;cases hq
   |true =>
    rw [hr] at hq
    simp only [cond_true] at hq
    obtain ⟨n1,us,h1,h2⟩:=fin hq
    have hv:aO fr t=(sg t).f bZ:=by
     rcases r.val t hr with hq|⟨⟨u,o,hq⟩,_⟩
     ·exact hq.symm
     ·rw [hq] at n1;cases n1
    rw [hv]
    simp only [n1,cond_false,h1,h2]
theorem Ny {v:V} (hv:Bg v=true) (n:Nat) (r:List V) (h:H):dW (n+1) (v::r) h=lM v (dW n r h):=by
 cases v<;>first|rfl|cases hv
theorem Jo (n:Nat) (h:H):dW n [] h=([],h):=by cases n<;>rfl
theorem rG:∀ (n:Nat) {l:List V} (h:H),pV l=true→dW n l h=(l,h)
 |0,l,h,_=>rfl
 |n+1,[],h,_=>rfl
 |n+1,v::l,h,hp=>by
  have hp:(Bool.rec (motive:=fun _=>Bool) false (pV l) (Bg v))=true:=hp
  cases hv:Bg v with
  |false=>rw [hv] at hp;cases hp
  |true =>
   rw [hv] at hp
   rw [Ny hv,rG n h hp]
   rfl
theorem abh {vs:List V} (hp:pV vs=true) (h:H):vW (eG vs) h=(eG vs,h):=by
 have tup:∀ us:List V,pV us=true→vW (.tuple us) h=(.tuple us,h):=by
  intro us hu
  have e1:dW (999999+1) [.tuple us] h=(match dW 999999 us h with|(cs,h)=>lM (.tuple cs) (dW 999999 [] h)):=rfl
  unfold vW
  rw [show (1000000:Nat)=999999+1 from rfl,e1,rG _ h hu]
  dsimp only
  rw [Jo]
  rfl
 match vs,hp with
 |[],hp=>exact tup [] hp
 |[v],hp =>
  have hp:(Bool.rec (motive:=fun _=>Bool) false true (Bg v))=true:=hp
  cases hv:Bg v with
  |false=>rw [hv] at hp;cases hp
  |true =>
   simp only [eG]
   unfold vW
   rw [show (1000000:Nat)=999999+1 from rfl,Ny hv,Jo]
   rfl
 |a::b::l,hp=>exact tup (a::b::l) hp
theorem MS {vf:ak} (r:RX x e bZ bx fr lo) (he:(XJ x vf).f bZ bx h=o2) (hn:o2≠.fail):∃ v h',o2=.val v h'∧leave vf fr lo h=.val v h':=by
 obtain ⟨vs,hvs,he⟩:=acz he hn
 simp only [leave,ZY r hvs,finish]
 unfold aAu at he
 cases hf:vf.vW with
 |false=>rw [hf] at he;exact ⟨_,_,he.symm,rfl⟩
 |true =>
  rw [hf] at he
  simp only [cond_true] at he ⊢
  cases hp:pV vs with
  |true=>rw [hp] at he;rw [abh hp];exact ⟨_,_,he.symm,rfl⟩
  |false=>rw [hp] at he;exact ⟨_,_,he.symm,rfl⟩
theorem JD:∀ (n:Nat) (as:List V) (s:Nat),aO (pad n as) s=aO as s
 |0,as,s=>rfl
 |n+1,[],0=>rfl
 |n+1,[],s+1=>by
  have:=JD n [] s
  simp only [pad,iL,this]
  rfl
 |n+1,a::as,0=>rfl
 |n+1,a::as,s+1=>by simp only [pad,iL,JD n as s]
theorem Za (hi:Fe mm fns ih2) {f:Nat} {vf:ak} {as:List V} (hf:fns f=some vf) (he:(Y8 vf (aaP vf.nt vf.body)).f ih2 as h=.val v h'):∃ N,∀ m,N≤m→sQ fns (runM mm fns m) f as h=.val v h':=by
 unfold Y8 at he
 simp only [sQ,hf]
 cases hx:Nat.beq vf.ext 0 with
 |false =>
  rw [hx] at he
  simp only [cond_false] at he ⊢
  refine ⟨0,fun m _=>?_⟩
  cases ho:ext vf.ext as h with
  |val u h1=>rw [ho] at he;cases he;rfl
  |_=>rw [ho] at he;cases he
 |true =>
  rw [hx] at he
  simp only [cond_true] at he ⊢
  cases hc:Nat.ble vf.nt 216 with
  |false=>rw [hc] at he;cases he
  |true =>
   rw [hc] at he
   simp only [cond_true] at he
   obtain ⟨hb,he⟩:=L8 he (by intro hq;cases hq)
   simp only [au,Nat.ble_eq,Ep] at hb hc
   rw [ae5 hb.1] at he
   have r0:RX (aaP vf.nt vf.body) [] (ofL as) bx0 (pad vf.nt as) []:=by
    unfold aaP
    generalize xX vf.body (0,0)=bp
    obtain ⟨b,p⟩:=bp
    exact RX.start (by rw [Dx];omega) hc fun s _=>(JD _ _ _).symm
   cases ho:(cc (aaP vf.nt vf.body) vf.body).f ih2 (ofL as) bx0 h with
   |norm E5 bx3 h3 =>
    rw [ho] at he
    dsimp only at he
    obtain ⟨oa,ra,N,e1⟩:=Gw hi vf.body ho (by intro hq;cases hq) r0
    cases oa with
    |norm ML Pn h4 =>
     obtain ⟨rfl,r4⟩:=ra
     obtain ⟨v2,h2,q1,q2⟩:=MS r4 he (by intro hq;cases hq)
     cases q1
     refine ⟨N,fun m hm=>?_⟩
     rw [e1 m hm]
     exact q2
    |_=>cases ra
   |jump j E5 bx3 h3 =>
    rw [ho] at he
    obtain ⟨oa,ra,N,e1⟩:=Gw hi vf.body ho (by intro hq;cases hq) r0
    cases oa with
    |jump j4 ML Pn h4 =>
     obtain ⟨rfl,rfl,r4⟩:=ra
     cases j with
     |ret =>
      obtain ⟨v2,h2,q1,q2⟩:=MS r4 he (by intro hq;cases hq)
      cases q1
      refine ⟨N,fun m hm=>?_⟩
      rw [e1 m hm]
      exact q2
     |_=>cases he
    |_=>cases ra
   |_=>rw [ho] at he;cases he
theorem adZ (hi:Fe mm fns ih2) {f:Nat} {as:List V} (he:(adY mm fns f).f ih2 as h=.val v h') (fr:List V) (lo:Lo):Ev mm fns (.call f as) fr lo h (.val v h'):=by
 have hst:∀ m,stepM mm fns (runM mm fns m) (.call f as) fr lo h=(match aG mm f as with|some v=>.val v h|none=>sQ fns (runM mm fns m) f as h):=fun _=>rfl
 unfold adY at he
 have hr0:aG mm f as=(match mm f with|none=>none|some m=>m.f as):=rfl
 cases hf:fns f with
 |none =>
  rw [hf] at he
  dsimp only at he
  cases hm:mm f with
  |none=>rw [hm] at he;cases he
  |some m =>
   rw [hm] at he hr0
   dsimp only at he hr0
   cases hr:m.f as with
   |none=>rw [hr] at he;cases he
   |some u =>
    rw [hr] at he hr0
    cases he
    refine Ev.of ⟨0,fun m _=>?_⟩
    rw [hst,hr0]
 |some vf =>
  rw [hf] at he
  dsimp only at he
  cases hm:mm f with
  |none =>
   rw [hm] at he hr0
   obtain ⟨N,hN⟩:=Za hi hf he
   refine Ev.of ⟨N,fun m hm2=>?_⟩
   rw [hst,hr0]
   exact hN m hm2
  |some m =>
   rw [hm] at he hr0
   dsimp only at he hr0
   cases hr:m.f as with
   |some u =>
    rw [hr] at he hr0
    cases he
    refine Ev.of ⟨0,fun m _=>?_⟩
    rw [hst,hr0]
   |none =>
    rw [hr] at he hr0
    obtain ⟨N,hN⟩:=Za hi hf he
    refine Ev.of ⟨N,fun m hm2=>?_⟩
    rw [hst,hr0]
    exact hN m hm2
theorem acZ (hi:Fe mm fns ih2):Fe mm fns (asn mm fns ih2) where
 code he hn r:=Gw hi _ he hn r
 scope he hn r:=acU hi r he hn
 call he fr lo:=adZ hi he fr lo
 app he fr lo:=amL hi he fr lo
theorem AQ:∀ n,Fe mm fns (pz mm fns n)
 |0=>⟨fun he hn _=>absurd he.symm hn,fun he hn _=>absurd he.symm hn,fun he=>(by cases he),fun he=>(by cases he)⟩
 |n+1=>acZ (AQ n)
theorem agW {n f:Nat} {as:List V} (he:pz mm fns n (.call f as) bZ bx h=.val v h'):∃ m,runM mm fns m (.call f as) [] [] h=.val v h':=by
 obtain ⟨N,hN⟩:=(AQ n).call he [] []
 exact ⟨N,hN N (bC _)⟩
theorem arD {P:Program} {Hn:Hints} (hs:∀ n,La P Hn (runM mm fns n)) {n:Nat} {f:FuncId} {as:List V} (he:qN (pz mm fns n (.call f as) zX bx0 emp) v=true) (ha:bT as=true) (hv:aW v=true) (σ:H):nM P Hn f as σ (.val v σ):=by
 cases ho:pz mm fns n (.call f as) zX bx0 emp with
 |val u h1 =>
  rw [ho] at he
  have he:l9 u v=true:=he
  obtain ⟨m,hm⟩:=agW ho
  refine aoI hs (n:=m) ?_ ha hv σ
  rw [hm]
  exact he
 |_=>rw [ho] at he;cases he
end
section
open Go Go.RowKit
variable {P:Program} {Hn:Hints} {mm XT:iO} {fns:Nat→Option ak} {ρ:V→V}
def aAf (P:Program) (Hn:Hints) (f:Nat) (a:List V) (v:V):Prop:=∀ σ,nM P Hn f a σ (.val v σ)
theorem VN (hs:∀ n,La P Hn (runM mm fns n)) {n:Nat} {f:Nat} {a:List V} {v:V} {h1:H} (he:runM mm fns n (.call f a) [] [] emp=.val v h1) (ha:bT a=true) (hv:aW v=true):aAf P Hn f a v:=fun σ=>by
 have hc:=(hs n).call f a emp
 rw [he] at hc
 exact Di hc ha hv σ
end
section
open Go Go.RowKit
variable {mm:iO} {fns:Nat→Option ak}
theorem lV (n:Nat) (c:aH) (fr:List V) (lo:Lo) (h:H):runM mm fns (n+1) (.code c) fr lo h=dA (runM mm fns n) c fr lo h:=rfl
theorem agV (n:Nat) (c:List Ins) (fr:List V) (lo:Lo) (h:H):runM mm fns (n+1) (.ops c) fr lo h=gG (runM mm fns n) c fr lo h:=rfl
theorem Yy (n:Nat) (c:List Ins) (fr:List V) (lo:Lo) (h:H):runM mm fns (n+1) (.draws c) fr lo h=bW (runM mm fns n) c fr lo h:=rfl
theorem Yz (n:Nat) (c r:aH) (fr:List V) (lo:Lo) (h:H):runM mm fns (n+1) (.scope c r) fr lo h=pO (runM mm fns n) c (runM mm fns n (.code r) fr lo h):=rfl
theorem agU (n:Nat) (f:V) (a:List V) (fr:List V) (lo:Lo) (h:H):runM mm fns (n+1) (.app f a) fr lo h=Hg (runM mm fns n) f a fr lo h:=rfl
theorem iZ {n f:Nat} {a:List V} {v:V} {fr:List V} {lo:Lo} {h:H} (e:aG mm f a=some v):runM mm fns (n+1) (.call f a) fr lo h=.val v h:=by
 show stepM mm fns (runM mm fns n) (.call f a) fr lo h=_
 simp only [stepM,e]
theorem dY {n f:Nat} {a:List V} {fr:List V} {lo:Lo} {h:H} {vf:ak} (e:aG mm f a=none) (hf:fns f=some vf) (hx:vf.ext=0):runM mm fns (n+1) (.call f a) fr lo h=GK vf (runM mm fns n (.code vf.body) (pad vf.nt a) [] h):=by
 show stepM mm fns (runM mm fns n) (.call f a) fr lo h=_
 simp only [stepM,e,sQ,hf,hx]
 rfl
variable {ih:Ih} {b:aH} {fr:List V} {lo:Lo} {h:H} {os:List Ins} {d:Option Nat} {v:V}
theorem ru:vI ih b (.norm fr lo h)=ih (.code b) fr lo h:=rfl
theorem yM (j:Jump):vI ih b (.jump j fr lo h)=.jump j fr lo h:=rfl
theorem SC (id:Nat):mP id (.norm fr lo h)=.norm fr lo h:=rfl
theorem Ae (id j:Nat):mP id (.jump (.exit j) fr lo h)=bif Nat.beq j id then .norm fr lo h else .jump (.exit j) fr lo h:=rfl
theorem Xw (id:Nat):mP id (.jump .ret fr lo h)=.jump .ret fr lo h:=rfl
theorem SB (id l:Nat):mP id (.jump (.goto l) fr lo h)=.jump (.goto l) fr lo h:=rfl
theorem SL:pO ih b (.norm fr lo h)=.norm fr lo h:=rfl
theorem XC:pO ih b (.jump .ret fr lo h)=.jump .ret fr lo h:=rfl
theorem SI (j:Nat):pO ih b (.jump (.exit j) fr lo h)=.jump (.exit j) fr lo h:=rfl
def kGo (ih:Ih) (b:aH) (l:Nat) (fr:List V) (lo:Lo) (h:H) (o:Option aH):Out:=match o with|some r=>ih (.scope b r) fr lo h|none=>.jump (.goto l) fr lo h
theorem SK (l:Nat):pO ih b (.jump (.goto l) fr lo h)=kGo ih b l fr lo h (findLabel b l):=rfl
theorem afk (l:Nat) (r:aH):kGo ih b l fr lo h (some r)=ih (.scope b r) fr lo h:=rfl
theorem afj (l:Nat):kGo ih b l fr lo h none=.jump (.goto l) fr lo h:=rfl
theorem Xz (c e:aH):Em ih (.bool true) c e fr lo h=ih (.code c) fr lo h:=rfl
theorem SE (c e:aH):Em ih (.bool false) c e fr lo h=ih (.code e) fr lo h:=rfl
theorem aol:FU ih os fr d (.ok v lo h)=ih (.ops os) (eF fr d v) lo h:=rfl
theorem abN (t:Nat):FT ih os fr t (.ok v lo h)=ih (.ops os) (jW (dI t fr) t v) lo h:=rfl
theorem afm:LH ih os fr lo d (.val v h)=ih (.ops os) (eF fr d v) lo h:=rfl
theorem Xy (f:ak):GK f (.norm fr lo h)=leave f fr lo h:=rfl
theorem abO (f:ak):GK f (.jump .ret fr lo h)=leave f fr lo h:=rfl
theorem abR (k:List V→Lo→H→Out):xE k (.norm fr lo h)=k fr lo h:=rfl
theorem ahd {t:Nat} {b:Bool} {i:Ins} (e:aO fr t=.bool b):qP ih os t b d i fr lo h=qK ih os i fr lo h:=by
 cases b<;>simp only [qP,e,cond_true,cond_false,Bool.not_false]
theorem YM {t:Nat} {b:Bool} {i:Ins} (e:aO fr t=.bool (!b)):qP ih os t b d i fr lo h=ih (.ops os) (eF fr d (.tuple [])) lo h:=by
 cases b<;>simp only [qP,e,cond_true,cond_false,Bool.not_false,Bool.not_true]
theorem YL {t:Nat} {b:Bool} {i:Ins} (e:aO fr t=.tuple []):qP ih os t b d i fr lo h=ih (.ops os) (eF fr d (.tuple [])) lo h:=by
 simp only [qP,e]
theorem ayn {x}:bF (.mv x)=false:=rfl
theorem afa {c} {a} {b}:bF (.pick c a b)=false:=rfl
theorem Xc {z}:bF (.bM z)=false:=rfl
theorem ae7 {x}:bF (.BR x)=false:=rfl
theorem abq {z} {p}:bF (.build z p)=false:=rfl
theorem aob {z} {a} {b} {p}:bF (.lit z a b p)=false:=rfl
theorem abv {a}:bF (.mF a)=false:=rfl
theorem abw {n} {a}:bF (.nR n a)=false:=rfl
theorem abB {n} {a} {x}:bF (.store n a x)=false:=rfl
theorem abz {x}:bF (.ji x)=false:=rfl
theorem aym {n} {c} {x} {y}:bF (.eq n c x y)=false:=rfl
theorem an8 {o} {x} {y}:bF (.bin o x y)=false:=rfl
theorem aof {x}:bF (.not x)=false:=rfl
theorem aoe {x}:bF (.neg x)=false:=rfl
theorem RS {k} {x}:bF (.iF k x)=false:=rfl
theorem abC {x}:bF (.vS x)=false:=rfl
theorem afb {x}:bF (.zK x)=false:=rfl
theorem Sl {x}:bF (.jV x)=false:=rfl
theorem abD {x}:bF (.toStr x)=false:=rfl
theorem RZ {t} {x}:bF (.gY t x)=false:=rfl
theorem Xj {f} {a} {b}:bF (.bJ f a b)=false:=rfl
theorem abx :bF (.mkMap )=false:=rfl
theorem Si {z} {l} {c}:bF (.mkSlice z l c)=false:=rfl
theorem abA {s} {n} {x} {l} {h} {m}:bF (.slice s n x l h m)=false:=rfl
theorem LC {o} {x}:bF (.fieldAddr o x)=false:=rfl
theorem abt {a} {o} {n} {x}:bF (.field a o n x)=false:=rfl
theorem RY {n} {x} {i}:bF (.aV n x i)=false:=rfl
theorem Xe {s} {n} {x} {i}:bF (.qZ s n x i)=false:=rfl
theorem abu {x} {i}:bF (.index x i)=false:=rfl
theorem Xf {a} {s} {n} {x} {i}:bF (.oM a s n x i)=false:=rfl
theorem Xg {k} {z} {o} {m} {q}:bF (.lookup k z o m q)=false:=rfl
theorem Xi {k} {m} {q} {x}:bF (.bV k m q x)=false:=rfl
theorem Xh {z} {m} {k}:bF (.wU z m k)=false:=rfl
theorem OY {m} {s} {x}:bF (.oU m s x)=false:=rfl
theorem RU {i} {x}:bF (.extract i x)=false:=rfl
theorem aoa {c} {x}:bF (.len c x)=false:=rfl
theorem an9 {x}:bF (.cap x)=false:=rfl
theorem aoc {x} {y}:bF (.max x y)=false:=rfl
theorem aod {x} {y}:bF (.min x y)=false:=rfl
theorem Xd {n} {x} {y}:bF (.append n x y)=false:=rfl
theorem RQ {z} {x} {n}:bF (.lI z x n)=false:=rfl
theorem ae9 {n} {x} {y}:bF (.copy n x y)=false:=rfl
theorem abr {z} {x}:bF (.clear z x)=false:=rfl
theorem aby {x} {y}:bF (.nS x y)=false:=rfl
theorem OZ {z} {l} {c}:bF (.kQ z l c)=false:=rfl
theorem Sj :bF (.recover )=false:=rfl
theorem abp {z}:bF (.alloc z)=true:=rfl
theorem ae8 {x}:bF (.yA x)=true:=rfl
theorem ahf (d:Option Nat) (o:l7):jQ ih os (.op d o) fr lo h=qK ih os (.op d o) fr lo h:=rfl
theorem YN (d:Option Nat) (f:Nat) (a:List aF):jQ ih os (.call d f a) fr lo h=qK ih os (.call d f a) fr lo h:=rfl
theorem adf (d:Option Nat) (f:aF) (a:List aF):jQ ih os (.dyn d f a) fr lo h=qK ih os (.dyn d f a) fr lo h:=rfl
theorem adg (t:Nat) (b:Bool) (d:Option Nat) (i:Ins):jQ ih os (.grd t b d i) fr lo h=qP ih os t b d i fr lo h:=rfl
theorem amc {t:Nat} {o:l7} (e:bF o=false):qK ih os (.op (some t) o) fr lo h=FU ih os fr (some t) (aZ t o fr lo h):=by simp only [qK,e,cond_false]
theorem ade {t:Nat} {o:l7} (e:bF o=true):qK ih os (.op (some t) o) fr lo h=FT ih os fr t (aZ t o fr lo h):=by simp only [qK,e,cond_true]
theorem apv {o:l7} (e:bF o=false):qK ih os (.op none o) fr lo h=FU ih os fr none (aZ 0 o fr lo h):=by simp only [qK,e,cond_false]
theorem ahe {f:Nat} {a:List aF} (e:iD (aF.evs a fr)=false):qK ih os (.call d f a) fr lo h=LH ih os fr lo d (ih (.call f (aF.evs a fr)) [] [] h):=by simp only [qK,e,cond_false]
theorem apu {f:aF} {a:List aF} (e:iD (aF.evs a fr)=false):qK ih os (.dyn d f a) fr lo h=LH ih os fr lo d (ih (.app (f.ev fr) (aF.evs a fr)) [] [] h):=by simp only [qK,e,cond_false]
theorem adi {g:Option (Nat×Bool)} {t:Nat} {o:l7} {k:List V→Lo→H→Out} (e:iM g t o fr lo h=true):AV ih (.chk g t o) k fr lo h=k fr lo h:=by simp only [AV,e,cond_true]
theorem ahg (d:Option Nat) (o:l7) (k:List V→Lo→H→Out):AV ih (.op d o) k fr lo h=xE k (qK (yL ih) [] (.op d o) fr lo h):=rfl
theorem YO (d:Option Nat) (f:Nat) (a:List aF) (k:List V→Lo→H→Out):AV ih (.call d f a) k fr lo h=xE k (qK (yL ih) [] (.call d f a) fr lo h):=rfl
theorem adk (d:Option Nat) (f:aF) (a:List aF) (k:List V→Lo→H→Out):AV ih (.dyn d f a) k fr lo h=xE k (qK (yL ih) [] (.dyn d f a) fr lo h):=rfl
theorem adl (t:Nat) (b:Bool) (d:Option Nat) (i:Ins) (k:List V→Lo→H→Out):AV ih (.grd t b d i) k fr lo h=xE k (qP (yL ih) [] t b d i fr lo h):=rfl
theorem adu (l:List Ins):yL ih (.ops l) fr lo h=.norm fr lo h:=rfl
theorem ae1 (f:Nat) (a:List V):yL ih (.call f a) fr lo h=ih (.call f a) fr lo h:=rfl
theorem an3 (f:V) (a:List V):yL ih (.app f a) fr lo h=ih (.app f a) fr lo h:=rfl
theorem YI (g:Nat) (first caps args:List V):Hg ih (.func (.func g) first caps) args fr lo h=ih (.call g (first++(args++caps))) fr lo h:=rfl
theorem Ui {c a b:aF} (e:c.ev fr=.bool true):qG c a b fr lo h=.ok (a.ev fr) lo h:=by simp only [qG,e,cond_true]
theorem PG {c a b:aF} (e:c.ev fr=.bool false):qG c a b fr lo h=.ok (b.ev fr) lo h:=by simp only [qG,e,cond_false]
def isVal (v:V):Bool:=match v with|.bf _ _=>false|.undef=>false|_=>true
theorem SA :isVal .undef=false:=rfl
theorem Xo {b}:isVal (.bool b)=true:=rfl
theorem abK {k} {n}:isVal (.int k n)=true:=rfl
theorem abM {s}:isVal (.str s)=true:=rfl
theorem O4 :isVal .nilPtr=true:=rfl
theorem Xu {a} {b}:isVal (.bf a b)=false:=rfl
theorem Xr {a} {b}:isVal (.dF a b)=true:=rfl
theorem Xp {l}:isVal (.gX l)=true:=rfl
theorem Sv :isVal .aj=true:=rfl
theorem Xt {l} {e}:isVal (.list l e)=true:=rfl
theorem abJ {a} {b} {c} {d} {e}:isVal (.hsl a b c d e)=true:=rfl
theorem O1 :isVal .dV=true:=rfl
theorem abL {i}:isVal (.map i)=true:=rfl
theorem LG :isVal .nilFunc=true:=rfl
theorem Xq {f} {a} {b}:isVal (.func f a b)=true:=rfl
theorem JA :isVal .nilIface=true:=rfl
theorem abI {l}:isVal (.agg l)=true:=rfl
theorem Sz {l}:isVal (.tuple l)=true:=rfl
theorem QD :V.cells .undef=[.undef]:=rfl
theorem acv :yT .undef=false:=rfl
theorem VW {b}:V.cells (.bool b)=[(.bool b)]:=rfl
theorem af5 {b}:yT (.bool b)=true:=rfl
theorem aaH {k} {n}:V.cells (.int k n)=[(.int k n)]:=rfl
theorem ao0 {k} {n}:yT (.int k n)=true:=rfl
theorem aaJ {s}:V.cells (.str s)=[(.str s)]:=rfl
theorem ao3 {s}:yT (.str s)=true:=rfl
theorem Oq :V.cells .nilPtr=[.nilPtr]:=rfl
theorem Yf :yT .nilPtr=true:=rfl
theorem V3 {a} {b}:V.cells (.bf a b)=[(.bf a b)]:=rfl
theorem aga {a} {b}:yT (.bf a b)=false:=rfl
theorem VY {a} {b}:V.cells (.dF a b)=[(.dF a b)]:=rfl
theorem af8 {a} {b}:yT (.dF a b)=true:=rfl
theorem VX {l}:V.cells (.gX l)=[(.gX l)]:=rfl
theorem af6 {l}:yT (.gX l)=true:=rfl
theorem QB :V.cells .aj=[.aj]:=rfl
theorem acs :yT .aj=true:=rfl
theorem VZ {l} {e}:V.cells (.list l e)=[(.list l e)]:=rfl
theorem af9 {l} {e}:yT (.list l e)=true:=rfl
theorem aaG {a} {b} {c} {d} {e}:V.cells (.hsl a b c d e)=[(.hsl a b c d e)]:=rfl
theorem aoZ {a} {b} {c} {d} {e}:yT (.hsl a b c d e)=true:=rfl
theorem Oo :V.cells .dV=[.dV]:=rfl
theorem Ye :yT .dV=true:=rfl
theorem aaI {i}:V.cells (.map i)=[(.map i)]:=rfl
theorem ao1 {i}:yT (.map i)=true:=rfl
theorem Ll :V.cells .nilFunc=[.nilFunc]:=rfl
theorem Ug :yT .nilFunc=true:=rfl
theorem cells_func {f} {a} {b}:V.cells (.func f a b)=[(.func f a b)]:=rfl
theorem af7 {f} {a} {b}:yT (.func f a b)=true:=rfl
theorem I8 :V.cells .nilIface=[.nilIface]:=rfl
theorem PD :yT .nilIface=true:=rfl
theorem aaF {l}:V.cells (.agg l)=l:=rfl
theorem aoY {l}:yT (.agg l)=false:=rfl
theorem QC {l}:V.cells (.tuple l)=[(.tuple l)]:=rfl
theorem acu {l}:yT (.tuple l)=false:=rfl
theorem adv {sz:Nat} {a x:aF} (e:isVal (x.ev fr)=true):jT sz a x fr lo h=bif Nat.beq (x.ev fr).cells.length sz&&dO (x.ev fr).cells then bH (a.ev fr) (x.ev fr).cells lo h else .fail:=by
 unfold jT
 generalize x.ev fr=X at e
 cases X<;>first|rfl|cases e
theorem amb {t:Nat} {x:aF} (e:isVal (x.ev fr)=true):wV t x fr lo h=.ok (.bf t 0) (dS lo t (x.ev fr).cells) h:=by
 unfold wV
 generalize x.ev fr=X at e
 cases X<;>first|rfl|cases e
theorem ama {x:aF} (e:isVal (x.ev fr)=true):yU x fr lo h=.ok (.dF h.next 0) lo (h.new (.cells (x.ev fr).cells)):=by
 unfold yU
 generalize x.ev fr=X at e
 cases X<;>first|rfl|cases e
theorem azB {cells:List V} {off sz:Nat} {x:aF} {r:List (Nat×Nat×aF)} (e:isVal (x.ev fr)=true):fill cells ((off,sz,x)::r) fr=bif Nat.beq (x.ev fr).cells.length sz then (match splice off cells (x.ev fr).cells with|some cs=>fill cs r fr|none=>none) else none:=by
 simp only [fill]
 generalize x.ev fr=X at e
 cases X<;>first|rfl|cases e
theorem aqZ {cells:List V}:fill cells [] fr=some cells:=by simp only [fill]
end
section
open Go Go.RowKit
variable {P:Program} {Hn:Hints} {g:G} {σ σ':H} {w:World}
theorem ahs {x:UInt8} {c:Nat} (hc:c<256):(x==UInt8.ofNat c)=Nat.beq x.toNat c:=by
 rw [Bool.eq_iff_iff,beq_iff_eq,Nat.beq_eq]
 constructor
 ·rintro rfl;simp;omega
 ·intro h;apply UInt8.toNat_inj.1;rw [h];simp;omega
theorem Ju (x c:UInt8) (l:List UInt8):Lib.indexByte (x::l) c=if (x==c)=true then 0 else if (Lib.indexByte l c==-1)=true then -1 else Lib.indexByte l c+1:=rfl
theorem Zp {c:Nat} (hc:c<256):∀ (l:List UInt8) (i:Nat),(Hy (l.map UInt8.toNat) c i=none∧Lib.indexByte l (UInt8.ofNat c)=-1)∨∃ k:Nat,Hy (l.map UInt8.toNat) c i=some (i+k)∧Lib.indexByte l (UInt8.ofNat c)=(k:Int)
 |[],i=>.inl ⟨rfl,rfl⟩
 |x::l,i=>by
  have hh:=Ju x (UInt8.ofNat c) l
  have hs:Hy ((x::l).map UInt8.toNat) c i=bif Nat.beq x.toNat c then some i else Hy (l.map UInt8.toNat) c (i+1):=rfl
  have hb:=ahs (x:=x) hc
  rw [←hb] at hs
  clear hb
  generalize (x==UInt8.ofNat c)=q at hh hs
  cases q with
  |true=>exact .inr ⟨0,by simpa using hs,by simpa using hh⟩
  |false =>
   simp only [cond_false] at hs
   rw [hs]
   rcases Zp hc l (i+1) with ⟨h1,h2⟩|⟨k,h1,h2⟩
   ·refine .inl ⟨h1,?_⟩
    rw [hh,h2];rfl
   ·refine .inr ⟨k+1,?_,?_⟩
    ·rw [h1];congr 1;omega
    ·rw [hh,h2]
     have:((k:Int)==-1)=false:=by simp
     rw [this]
     simp
theorem Zq {c:Nat} (hc:c<256) (l:List UInt8):ae0 (Hy (l.map UInt8.toNat) c 0)=.int .i64 (Lib.indexByte l (UInt8.ofNat c)):=by
 rcases Zp hc l 0 with ⟨h1,h2⟩|⟨k,h1,h2⟩
 ·rw [h1,h2];rfl
 ·rw [h1,h2,Nat.zero_add];rfl
theorem Zg {c:Nat} (hc:c<256):∀ (l:List UInt8),V5 (l.map UInt8.toNat) c=l.count (UInt8.ofNat c)
 |[]=>rfl
 |x::l=>by
  simp only [List.map_cons,V5,List.count_cons]
  rw [ahs hc,Zg hc l]
  cases Nat.beq x.toNat c<;>simp
theorem MZ {ns:List Nat} (h:∀ n∈ns,n<256):(ns.map UInt8.ofNat).map UInt8.toNat=ns:=by
 rw [List.map_map]
 conv=>rhs;rw [←List.map_id ns]
 refine List.map_congr_left fun n hn=>?_
 have:=h n hn
 simp;omega
theorem Gt (ns:List Nat):Lib.bytesOf (ns.map Int.ofNat)=ns.map UInt8.ofNat:=by
 simp [Lib.bytesOf]
theorem Zc {c:Nat}:(Int.ofNat c).toNat.toUInt8=UInt8.ofNat c:=rfl
theorem AB {v:V} {x:Value} (hw:Rw P (aQ P Hn) g σ w) (h:Rv g v x):uS P Hn g σ w v σ x w:=⟨g,h,hw,.refl⟩
theorem KU {a b:V} {As:Array Value} (h:kK g [a,b] As.toList):∃ x y,As=#[x,y]∧Rv g a x∧Rv g b y:=by
 obtain ⟨x,xs,e,hx,h1⟩:=h.y5
 obtain ⟨y,ys,rfl,hy,h2⟩:=h1.y5
 have:=h2.KW
 subst this
 exact ⟨x,y,by rw [←Array.toList_inj,e],hx,hy⟩
theorem OW {c:Nat} {y:Value} (h:Rv g (.int .u8 (.ofNat c)) y):y=.int .u8 (.ofNat c):=by cases h;rfl
theorem apC {b:List Nat} {x:Value} (h:Rv g (.str b) x):∃ s:ByteArray,x=.string s∧b=s.data.toList.map UInt8.toNat:=by
 cases h with
 |str bs=>exact ⟨bs,rfl,rfl⟩
theorem cells_at {b off:Nat} {ns:List Nat} (h:∀ j n,ns[j]?=some n→w.cell? ⟨b,off+j,none⟩=some (.int .u8 (.ofNat n))):∀ i,i<ns.length→w.cell? ⟨b,off+i,none⟩=some (.int .u8 ((ns.map Int.ofNat).getD i 0)):=by
 intro i hi
 rw [h i ns[i] (fM hi)]
 simp [List.getD,hi]
theorem QF {b off n c:Nat} {ns:List Nat} (hn:ns.length=n) (hc:∀ i,i<n→w.cell? ⟨b,off+i,none⟩=some (.int .u8 ((ns.map Int.ofNat).getD i 0))) (cv:Int) :
  (Extern.BytealgCount.count #[.slice (some ⟨b,off,none⟩) n c,.int .u8 cv]).run P w=.ok (.int .i64 (Lib.countByte (ns.map UInt8.ofNat) cv.toNat.toUInt8)) w:=by
 have hl:=Lib.run_loadBytesX (P:=P) w (ns.map Int.ofNat) ⟨b,off,none⟩ .empty (fun j x hj=>by
  have hjl:j<n:=by have:=(iW.1 hj).1;simpa [hn] using this
  rw [lK,hc j hjl,List.getD_eq_getElem?_getD,hj];rfl)
 rw [List.length_map,hn,Gt] at hl
 have hs:=Lib.run_countString (P:=P) ⟨(ns.map UInt8.ofNat).toArray⟩ cv w
 have e1:(Extern.Bytes.bytesOf (.slice (some ⟨b,off,none⟩) n c)).run P w=(Extern.Bytes.bytesOf (.string ⟨(ns.map UInt8.ofNat).toArray⟩)).run P w:=by
  show (Extern.Bytes.loadBytes ⟨b,off,none⟩ n .empty).run P w=_
  rw [hl]
  show Result.ok _ w=Result.ok _ w
  congr 1
  apply ByteArray.ext
  show (#[]:Array UInt8)++_=_
  simp
 have hk:∀ x y,Extern.BytealgCount.count #[x,y]=(do let b ←Extern.Bytes.bytesOf x;let c ←Extern.Bytes.asByte y;pure (goInt (b.foldl (fun n x=>if x==c then n+1 else n) (0:Nat)))):=fun _ _=>rfl
 rw [hk,aA] at hs ⊢
 rw [e1]
 exact hs
theorem WB {f:FuncId} {fn:Func} {vf:ak} (hf:P.funcs[f]?=some fn) (hname:(fn.name== "runtime.NumGoroutine")=false) (hb:fn.body.isNone=true) (hn:Extern.findNext fn=none) (he:Extern.find fn=some Extern.BytealgIndexByte.indexByte) (hx:vf.ext=3):Gq P Hn f vf:=by
 intro args σ g As w v σ' ha hw e
 rw [hx] at e
 unfold ext at e
 split at e<;>try (cases e;done)
 ·omega
 ·rename_i b c _
  cases hc:Nat.blt c 256 with
  |false=>rw [hc] at e;cases e
  |true =>
   rw [hc] at e
   have hlt:=qp hc
   simp only [cond_true,Out.val.injEq] at e
   obtain ⟨rfl,rfl⟩:=e
   obtain ⟨x,y,rfl,h1,h2⟩:=KU ha
   obtain ⟨s,rfl,rfl⟩:=apC h1
   rw [OW h2]
   refine ⟨.int .i64 (Lib.indexByte s.data.toList (UInt8.ofNat c)),w,?_,?_⟩
   ·rw [run_callFunc_extern hf hname hb hn he,Lib.run_indexByteString];rfl
   ·rw [Zq hlt];exact AB hw (.int _ _)
 ·omega
theorem aa2 {f:FuncId} {fn:Func} {vf:ak} (hf:P.funcs[f]?=some fn) (hname:(fn.name== "runtime.NumGoroutine")=false) (hb:fn.body.isNone=true) (hn:Extern.findNext fn=none) (he:Extern.find fn=some Extern.BytealgIndexByte.indexByte) (hx:vf.ext=2):Gq P Hn f vf:=by
 intro args σ g As w v σ' ha hw e
 rw [hx] at e
 unfold ext at e
 split at e<;>try (cases e;done)
 ·rename_i b c _
  cases hc:Nat.blt c 256 with
  |false=>rw [hc] at e;cases e
  |true =>
   rw [hc] at e
   have hlt:=qp hc
   simp only [cond_true] at e
   cases hbs:bytesIn σ b with
   |none=>rw [hbs] at e;cases e
   |some ns =>
   rw [hbs] at e
   simp only [Out.val.injEq] at e
   obtain ⟨rfl,rfl⟩:=e
   obtain ⟨x,y,rfl,h1,h2⟩:=KU ha
   rw [OW h2]
   obtain ⟨hns,hX⟩:=CX (β:=fun _=>none) hw (.dP h1) hbs
   rw [show Hy ns c 0=Hy ((ns.map UInt8.ofNat).map UInt8.toNat) c 0 by rw [MZ hns],Zq hlt]
   rcases hX with ⟨rfl,rfl⟩|⟨b',off,cap,rfl,hcell⟩
   ·refine ⟨_,w,?_,AB hw (.int _ _)⟩
    rw [run_callFunc_extern hf hname hb hn he,Lib.run_indexByteNil];rfl
   ·refine ⟨_,w,?_,AB hw (.int _ _)⟩
    have:=Lib.run_indexByteSlice (P:=P) w b' off ns.length cap (ns.map Int.ofNat) (by simp) (cells_at hcell) (.ofNat c)
    rw [run_callFunc_extern hf hname hb hn he,this,Gt,Zc];rfl
 ·omega
 ·omega
theorem aa1 {f:FuncId} {fn:Func} {vf:ak} (hf:P.funcs[f]?=some fn) (hname:(fn.name== "runtime.NumGoroutine")=false) (hb:fn.body.isNone=true) (hn:Extern.findNext fn=none) (he:Extern.find fn=some Extern.BytealgCount.count) (hx:vf.ext=4):Gq P Hn f vf:=by
 intro args σ g As w v σ' ha hw e
 rw [hx] at e
 unfold ext at e
 split at e<;>try (cases e;done)
 ·omega
 ·omega
 ·rename_i b c _
  cases hc:Nat.blt c 256 with
  |false=>rw [hc] at e;cases e
  |true =>
   rw [hc] at e
   have hlt:=qp hc
   simp only [cond_true] at e
   cases hbs:bytesIn σ b with
   |none=>rw [hbs] at e;cases e
   |some ns =>
   rw [hbs] at e
   simp only [Out.val.injEq] at e
   obtain ⟨rfl,rfl⟩:=e
   obtain ⟨x,y,rfl,h1,h2⟩:=KU ha
   rw [OW h2]
   obtain ⟨hns,hX⟩:=CX (β:=fun _=>none) hw (.dP h1) hbs
   rw [show V5 ns c=V5 ((ns.map UInt8.ofNat).map UInt8.toNat) c by rw [MZ hns],Zg hlt]
   rcases hX with ⟨rfl,rfl⟩|⟨b',off,cap,rfl,hcell⟩
   ·refine ⟨_,w,?_,AB hw (.int _ _)⟩
    rw [run_callFunc_extern hf hname hb hn he,show (Extern.BytealgCount.count #[.slice none 0 0,.int .u8 (.ofNat c)]).run P w=.ok (.int .i64 0) w from Lib.run_countString (P:=P) .empty (.ofNat c) w];rfl
   ·refine ⟨_,w,?_,AB hw (.int _ _)⟩
    have:=QF (P:=P) (c:=cap) rfl (cells_at hcell) (.ofNat c)
    rw [run_callFunc_extern hf hname hb hn he,this,Zc];rfl
end
end Go.Vx
