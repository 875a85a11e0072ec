/- A part of the proof of TopLocks. -/
import Derived.Test.YtbbcoelimmpbaaaGreatDoorVav
set_option linter.all false
set_option linter.unusedVariables false
set_option linter.unusedSimpArgs false
set_option maxRecDepth 1000000
noncomputable section
open Go Go.RowKit
namespace Go.Vx
section
noncomputable section
def Ez (C:Cst) (S:Nat→Ks) (N:Nat) (end_:Bool):Nat→Ks→Bool
 |0,s=>!end_||(l9 (aO s.x 0) (jn 2)&&Nat.beq s.m (N+1))
 |n+1,s=>match uF C 0 s with
  |r=>match nxR s r with
   |s2=>apB C 0 (end_&&Nat.beq n 0) s r&&((Nat.beq s.m 1||l9 r.c s.c)&&((!(isN s.c)||Nat.beq s.m 1)&&((r.more.isEmpty||(match S s.m with
    |q=>Nat.ble s.m N&&(yG r.more [.agg q.x]&&(l9 q.c r.c&&(fewer q.l r.l&&(Nat.beq q.l.length r.l.length&&(YB s2.l q.l&&(qC q.x&&Nat.beq q.x.length 11))))))))&&Ez C S N end_ n s2)))
structure MnF (C:Cst) (S:Nat→Ks) (N:Nat) (last:Bool) (s:Ks):Prop where
 st:amE C 0 last s (uF C 0 s)
 cc:s.m≠1→(uF C 0 s).c=s.c
 wn:isN s.c=true→s.m=1
 nx:(uF C 0 s).more=[]∨(s.m≤N∧(uF C 0 s).more=[.agg (S s.m).x]∧(S s.m).c=(uF C 0 s).c∧fewer (S s.m).l (uF C 0 s).l=true∧(S s.m).l.length=(uF C 0 s).l.length∧YB (nxX C 0 s).l (S s.m).l=true∧qC (S s.m).x=true∧(S s.m).x.length=11)
variable {C:Cst} {t m:Nat} {s:Ks} {r:Res} {S:Nat→Ks} {N:Nat}
theorem xJ {end_:Bool}:∀ {n:Nat} {s:Ks},Ez C S N end_ n s=true→(∀ k,k<n→MnF C S N (end_&&Nat.beq (k+1) n) (kV C 0 k s))∧(end_=true→aO (kV C 0 n s).x 0=jn 2∧(kV C 0 n s).m=N+1)
 |0,s,h=>by
  refine ⟨fun k hk=>by omega,fun he=>?_⟩
  subst he
  simp only [Ez,Bool.not_true,Bool.false_or,au] at h
  exact ⟨jS h.1,aJ h.2⟩
 |n+1,s,h=>by
  simp only [Ez,au,gu,Bool.not_eq_true',List.isEmpty_iff] at h
  obtain ⟨h1,h2,h3,h4,h5⟩:=h
  obtain ⟨g1,g2⟩:=xJ (s:=nxX C 0 s) h5
  refine ⟨fun k hk=>?_,g2⟩
  cases k with
  |zero =>
   have h1:=aae h1
   rw [show Nat.beq n 0=Nat.beq (0+1) (n+1) by cases n<;>rfl] at h1
   refine ⟨h1,fun hm=>?_,fun hn=>?_,?_⟩
   ·rcases h2 with h2|h2
    ·exact absurd (aJ h2) hm
    ·exact jS h2
   ·rcases h3 with h3|h3
    ·rw [show isN (kV C 0 0 s).c=isN s.c from rfl,h3] at hn;cases hn
    ·exact aJ h3
   ·rcases h4 with h4|⟨k1,k2,k3,k4,k5,k6,k7,k8⟩
    ·exact .inl h4
    ·exact .inr ⟨Nat.le_of_ble_eq_true k1,uh _ _ k2,jS k3,k4,aJ k5,k6,k7,aJ k8⟩
  |succ k=>exact g1 k (by omega)
def mkY (C:Cst) (N:Nat) (S:Nat→Ks) (K:Nat→Nat):Rws:=⟨C,N,fun t k=>kV C t k (S t),K,fun k=>(kV C 0 k (S 0)).m,fun t k=>uF C t (kV C t k (S t)),fun t k=>Vz (kV C t k (S t)).c⟩
theorem qx:∀ (k:Nat) (s:Ks),kV C t (k+1) s=nxX C t (kV C t k s)
 |0,s=>rfl
 |k+1,s=>qx k (nxX C t s)
theorem aBq {k:Nat}:(kV C t (k+1) s).e=false:=by rw [qx];rfl
theorem arA {n:Nat} {last:Nat→Bool} (h:∀ k,k<n→Fb C t (last k) (kV C t k s)):∀ k,k≤n→(kV C t k s).m=s.m
 |0,_=>rfl
 |k+1,hk=>by
  rw [qx]
  show (kV C t k s).m+(uF C t (kV C t k s)).more.length=s.m
  rw [(h k (by omega)).more,arA h k (by omega)]
  rfl
structure Facts (C:Cst) (N:Nat) (S:Nat→Ks) (K:Nat→Nat):Prop where
 cst:Qs C
 most:uK (Int.ofNat (1+3*tot N K+50)) C.most=true
 room:1+3*tot N K+60≤100000
 JZ:∀ (ts:List Nat) (t:Nat),ts.Nodup→(∀ u∈ts,u≤N)→t≤N+1→t∉ts→Cc 438 [wv ts,jn t,zl] (.tuple [wv (ts++[t]),.int .i64 0])
 main:∀ k,k<K 0→MnF C S N (Nat.beq (k+1) (K 0)) (kV C 0 k (S 0))
 JH:aO (kV C 0 (K 0) (S 0)).x 0=jn 2∧(kV C 0 (K 0) (S 0)).m=N+1
 kid:∀ t,t≤N→t≠0→(∀ k,k<K t→Fb C t (Nat.beq (k+1) (K t)) (kV C t k (S t)))∧aO (kV C t (K t) (S t)).x 0=jn 2
 pR:∀ t m,t≤N→t≠0→t<m→m≤N+1→∀ k,k<K t→chk C t m (kV C t k (S t)) (uF C t (kV C t k (S t)))=true
 k0:∀ t,t≤N→0<K t
 s0:(S 0).m=1∧(S 0).e=true∧(S 0).x.length=11∧kX (S 0).c=true
 sk:∀ t,t≤N→t≠0→(S t).e=false∧(S t).x.length=11∧kX (S t).c=true
variable {K:Nat→Nat}
theorem ayo {c:V}:Vz c=KY∨(Vz c=.aj∧isN c=true):=by
 unfold Vz
 cases isN c with
 |true=>exact .inr ⟨rfl,rfl⟩
 |false=>exact .inl rfl
theorem Tt (hF:Facts C N S K):∀ k,k≤K 0→(kV C 0 k (S 0)).m≤N+1
 |0,_=>by rw [show kV C 0 0 (S 0)=S 0 from rfl,hF.s0.1];omega
 |k+1,hk=>by
  have h1:=hF.main k (by omega)
  have h2:=Tt hF k (by omega)
  rw [qx]
  show (kV C 0 k (S 0)).m+(uF C 0 (kV C 0 k (S 0))).more.length≤N+1
  rcases h1.nx with h|⟨h,h3,_⟩
  ·rw [h];simpa using h2
  ·rw [h3];simp;omega
theorem aAr (hF:Facts C N S K) {t k:Nat} (ht:t≤N):(kV C t k (S t)).e=(Nat.beq t 0&&Nat.beq k 0):=by
 cases k with
 |zero =>
  by_cases h:t=0
  ·subst h;exact hF.s0.2.1
  ·rw [jk h];exact (hF.sk t ht h).1
 |succ k=>rw [aBq,show Nat.beq (k+1) 0=false from rfl,Bool.and_false]
theorem stp (hF:Facts C N S K) {t k:Nat} (ht:t≤N) (hk:k<K t):amE C t (Nat.beq (k+1) (K t)) (kV C t k (S t)) (uF C t (kV C t k (S t))):=by
 by_cases h:t=0
 ·subst h;exact (hF.main k hk).st
 ·exact ((hF.kid t ht h).1 k hk).st
theorem WH (hF:Facts C N S K):y7 (mkY C N S K) where
 cst:=hF.cst
 most:=hF.most
 room:=hF.room
 JZ ts t h1 h2 h3 h4:=hF.JZ ts t h1 h2 (Nat.le_succ_of_le h3) h4
 st t k m ht hk h0 h1:=by
  show Y6 C t m (kV C t k (S t)) (Nat.beq t 0&&Nat.beq k 0) (Vz (kV C t k (S t)).c) (uF C t (kV C t k (S t)))
  rw [←aAr hF ht]
  by_cases h:t=0
  ·subst h
   rw [h0 rfl]
   exact V4 (hF.main k hk).st.chk
  ·exact V4 (hF.pR t m ht h (h1 h).1 (h1 h).2 k hk)
 nx t k ht hk:=by
  have h1:=stp hF ht hk
  show (kV C t (k+1) (S t)).x=_∧(kV C t (k+1) (S t)).c=_∧fewer (kV C t (k+1) (S t)).l _=true∧(kV C t (k+1) (S t)).l.length=_
  rw [qx]
  exact ⟨rfl,rfl,h1.fw,h1.ln⟩
 wk t k ht hk:=by
  show Vz (kV C t k (S t)).c=KY∨(Vz (kV C t k (S t)).c=.aj∧t=0∧(kV C 0 k (S 0)).m=1)
  by_cases h:t=0
  ·subst h
   rcases ayo (c:=(kV C 0 k (S 0)).c) with h|⟨h1,h2⟩
   ·exact .inl h
   ·exact .inr ⟨h1,rfl,(hF.main k hk).wn h2⟩
  ·have h2:=((hF.kid t ht h).1 k hk).n
   refine .inl ?_
   unfold Vz;rw [h2];rfl
 wr t k ht hk:=by
  have h1:=(stp hF ht hk).w
  show ((uF C t (kV C t k (S t))).w=Vz (kV C t k (S t)).c∧k+1≠K t)∨((uF C t (kV C t k (S t))).w=sy (.tuple [.bool true,jn t,zl])∧k+1=K t)
  by_cases h:k+1=K t
  ·rw [h] at h1
   simp only [Nat.beq_refl,cond_true] at h1
   exact .inr ⟨h1,h⟩
  ·rw [jk h] at h1
   exact .inl ⟨h1,h⟩
 kid t k ht h hk:=⟨((hF.kid t ht h).1 k hk).more,((hF.kid t ht h).1 k hk).c⟩
 main k hk:=by
  have h1:=hF.main k hk
  refine ⟨h1.cc,?_⟩
  show ((kV C 0 (k+1) (S 0)).m=(kV C 0 k (S 0)).m∧_)∨((kV C 0 (k+1) (S 0)).m=(kV C 0 k (S 0)).m+1∧_)
  have h2:(kV C 0 (k+1) (S 0)).m=(kV C 0 k (S 0)).m+(uF C 0 (kV C 0 k (S 0))).more.length:=by rw [qx];rfl
  rcases h1.nx with h|⟨g1,g2,g3,g4,g5,g6,g7,g8⟩
  ·refine .inl ⟨by rw [h2,h];rfl,h⟩
  ·refine .inr ⟨by rw [h2,g2];rfl,g1,g2,g3,g4,g5,?_,g7,g8,hF.k0 _ g1⟩
   show YB (kV C 0 (k+1) (S 0)).l _=true
   rw [qx]
   exact g6
 mk0:=hF.s0.1
 mkn k hk:=Tt hF k hk
 mkK:=hF.JH.2
 k0:=hF.k0 0 (Nat.zero_le _)
end
end
section
noncomputable section
def ovB (C:Cst) (t:Nat) (s:Ks):Bool:=qN (pz (TF s.l.length C.most (OC C t zl)) oW 1000000 (.call 25 [lZ C (sy (.gX s.l)) s.c 0 (Vz s.c) (EU t s.x 0 s.m) s.e]) zX bx0 emp) (.bool false)
def qH (C:Cst) (t:Nat):Nat→Ks→Bool
 |0,_=>true
 |n+1,s=>ovB C t s&&qH C t n (nxX C t s)
def Hw (C:Cst) (N:Nat) (s:Ks) (f:Nat):Bool:=qN (pz (TF s.l.length C.most (OC C (N+1) zl)) oW 1000000 (.call f [lZ C (sy (.gX s.l)) s.c 0 KY (EU (N+1) s.x 0 (N+1)) false]) zX bx0 emp) (.bool true)
variable {C:Cst} {t m:Nat} {s:Ks} {S:Nat→Ks} {N:Nat} {K:Nat→Nat}
theorem jX:∀ {n:Nat} {s:Ks},qH C t n s=true→∀ k,k<n→ovB C t (kV C t k s)=true
 |0,s,_,k,hk=>by omega
 |n+1,s,h,0,_=>by
  simp only [qH,au] at h
  exact h.1
 |n+1,s,h,k+1,hk=>by
  simp only [qH,au] at h
  exact jX (s:=nxX C t s) h.2 k (by omega)
structure CU (C:Cst) (N:Nat) (S:Nat→Ks) (K:Nat→Nat):Prop where
 pops:fD C.ops=true
 CG:fD C.defs=true
 ov:∀ t,t≤N→∀ k,k<K t→ovB C t (kV C t k (S t))=true
 sm:∀ t,t≤N→t≠0→(S t).m=N+1
 fin:Hw C N (kV C 0 (K 0) (S 0)) 25=true
 stuck:Hw C N (kV C 0 (K 0) (S 0)) 31=true
 col:∀ bs:List Bool,bs.length≤N+1→runs bs 0≠[]→Hu bs false=true
 Dk:Hu [true] true=true
theorem aeA (hF:Facts C N S K) (hO:CU C N S K):Ht (mkY C N S K) where
 x0 t k ht hk:=by
  show aO (kV C t k (S t)).x 0=jn (if k=K t then 2 else 1)
  by_cases h:k=K t
  ·rw [if_pos h,h]
   by_cases h0:t=0
   ·subst h0;exact hF.JH.1
   ·exact (hF.kid t ht h0).2
  ·rw [if_neg h]
   exact (stp hF ht (show k<K t from by have:k≤K t:=hk;omega)).x0
 x11 t k ht hk:=by
  show (kV C t k (S t)).x.length=11
  cases k with
  |zero =>
   by_cases h0:t=0
   ·subst h0;exact hF.s0.2.2.1
   ·exact (hF.sk t ht h0).2.1
  |succ k =>
   rw [qx]
   exact (V4 (stp hF ht (show k<K t from by have:k+1≤K t:=hk;omega)).chk).eleven
 c0 t k ht hk:=by
  show kX (kV C t k (S t)).c=true
  cases k with
  |zero =>
   by_cases h0:t=0
   ·subst h0;exact hF.s0.2.2.2
   ·exact (hF.sk t ht h0).2.2
  |succ k =>
   rw [qx]
   exact (stp hF ht (show k<K t from by have:k+1≤K t:=hk;omega)).oc
 pops:=hO.pops
 CG:=hO.CG
 run t k m ht hk h0 h1:=by
  have h:=hO.ov t ht k hk
  have hm:(kV C t k (S t)).m=m:=by
   by_cases hq:t=0
   ·subst hq;exact (h0 rfl).symm
   ·have g1:m=N+1:=h1 hq
    have hk':k≤K t:=Nat.le_of_lt hk
    rw [arA (hF.kid t ht hq).1 k hk',hO.sm t ht hq,g1]
  unfold ovB at h
  rw [hm,aAr hF ht] at h
  exact h
 fin:=hO.fin
 agk ts h1 h2:=hF.JZ ts (N+1) h1 h2 (bC _) (fun h=>by have:N+1≤N:=h2 _ h;omega)
 col:=hO.col
 Dk:=hO.Dk
end
end
section
variable {C:Cst} {S:Nat→Ks} {N:Nat} {K:Nat→Nat}
theorem an6 (hF:Facts C N S K) {nd X:V} (hl:(S 0).l=[nd]) (hn:zH [nd]=true) (h1:HY nd=true) (h2:qo 1 nd=true) (h3:sub (rA fun j=>j) nd=nd)
  (hx:X=.agg (subs (rA fun j=>j) (S 0).x)) (hc:(S 0).c=.aj) (WT:xB 1 (S 0).x=true) (abn:qC (S 0).x=true) :
  Og (mkY C N S K) (fun _=>0) [] [nd] [X] (fun _ j=>j) .aj where
 gn:=hn
 len:=by simp
 m:=by show 1=(S 0).m;exact hF.s0.1.symm
 thc Z hZ:=by
  simp only [List.mem_singleton] at hZ
  subst hZ
  exact ⟨_,hx,by rw [iy];exact hF.s0.2.2.1,vM abn⟩
 le t ht:=Nat.zero_le _
 zero t ht:=rfl
 ats t ht:=by
  have:t=0:=by simpa using ht
  subst this
  refine ⟨X,rfl,?_⟩
  have hvw:Vw (fun j=>j) (S 0).l [nd]:=by
   rw [hl]
   exact {
    zero:=rfl
    pos:=by simp
    inj:=fun i j hi hj h=>h
    low:=fun j hj=>hj
    node:=fun j v h hu=>by
     cases j with
     |zero =>
      simp at h
      subst h
      exact ⟨h1,h2,by simp [h3]⟩
     |succ j=>simp at h }
  refine ⟨hvw,hx,?_,?_,?_⟩
  ·show xB (S 0).l.length (S 0).x=true;rw [hl];exact WT
  ·show qo (S 0).l.length (S 0).c=true;rw [hc];rfl
  ·show sub _ (S 0).c=.aj;rw [hc];simp only [sub]
 dis t u ht hu hne:=by
  have h1:t=0:=by simpa using ht
  have h2:u=0:=by simpa using hu
  omega
 nodup:=List.nodup_nil
 parked t:=by
  constructor
  ·intro h;simp at h
  ·rintro ⟨h1,h2⟩
   have h3:t=0:=by simpa using h1
   subst h3
   have h4:0<K 0:=hF.k0 0 (Nat.zero_le _)
   have h5:0=K 0:=h2
   omega
end
section
def afz:List Nat:=match (Tab.vf3).body with|.seq _ (.seq _ (.seq _ (.seq _ (.seq (.region [.op _ (.mv (.const (.str s)))]) _))))=>s|_=>[]
def afA:List Nat:=match (Tab.vf3).body with|.seq _ (.seq _ (.seq _ (.seq _ (.seq _ (.seq (.seq _ (.block _ (.loop (.seq _ (.seq (.block _ (.region [_,.op _ (.bin _ _ (.const (.str s))),_])) _))))) _)))))=>s|_=>[]
def BX:List Nat:=match (Tab.vf3).body with|.seq _ (.seq _ (.seq _ (.seq _ (.seq _ (.seq _ (.seq _ (.seq _ (.seq (.region (_::.op _ (.bin _ _ (.const (.str s)))::_)) _))))))))=>s|_=>[]
def lkA:aH:=.seq (.seq (.region [.op (some 20) (.mv (.tmp 8)),.op (some 21) (.mv (.tmp 6)),.op (some 22) (.bin .lss (.tmp 20) (.tmp 21))]) (.cond (.tmp 22) .skip (.exit 0))) (.seq (.block 1 (.region [.op (some 25) (.mv (.tmp 7)),.op (some 26) (.bin .add (.tmp 25) (.const (.str afA))),.op (some 7) (.mv (.tmp 26))])) (.region [.op (some 23) (.mv (.tmp 8)),.op (some 24) (.bin .add (.tmp 23) (.const (.int .i64 1))),.op (some 8) (.mv (.tmp 24))]))
def lkB:aH:=.seq (.seq (.region [.op (some 28) (.mv (.tmp 10)),.op (some 29) (.mv (.tmp 1)),.op (some 30) (.len 0 (.tmp 29)),.op (some 31) (.bin .lss (.tmp 28) (.tmp 30))]) (.cond (.tmp 31) .skip (.exit 2))) (.seq (.block 3 (.region [.op (some 34) (.mv (.tmp 9)),.op (some 35) (.mv (.tmp 1)),.op (some 36) (.mv (.tmp 10)),.op (some 37) (.aV 1 (.tmp 35) (.tmp 36)),.op (some 38) (.mF (.tmp 37)),.op (some 39) (.bin .rem (.tmp 38) (.const (.int .u8 250))),.op (some 40) (.lit [(.int .u8 0)] 1 1 [(0,1,(.tmp 39))]),.op (some 41) (.append 1 (.tmp 34) (.tmp 40)),.op (some 9) (.mv (.tmp 41))])) (.region [.op (some 32) (.mv (.tmp 10)),.op (some 33) (.bin .add (.tmp 32) (.const (.int .i64 1))),.op (some 10) (.mv (.tmp 33))]))
def lkE:aH:=.seq (.region [.op (some 42) (.mv (.tmp 7)),.op (some 43) (.bin .add (.tmp 42) (.const (.str BX))),.op (some 44) (.jV (.tmp 43)),.op (some 45) (.mv (.tmp 9)),.call (some 46) 5 [(.tmp 44),(.const (.int .i64 4000)),(.const (.int .i64 100)),(.tmp 45)],.op (some 11) (.alloc [(.int .i64 0),(.int .i64 0),(.int .i64 0),(.int .i64 0),(.int .i64 0),.aj,(.str []),(.int .i64 0),(.int .i64 0),(.int .i64 0)]),.op none (.store 10 (.tmp 11) (.tmp 46))]) (.seq (.region [.op (some 47) (.mv (.tmp 5)),.op (some 48) (.mv (.tmp 47)),.grd 48 true (some 49) (.op (some 49) (.fieldAddr 0 (.tmp 11))),.grd 48 true (some 50) (.op (some 50) (.mF (.tmp 49))),.grd 48 true (some 51) (.op (some 51) (.eq false 0 (.tmp 50) (.const (.int .i64 4)))),.op (some 52) (.pick (.tmp 48) (.tmp 51) (.const (.bool false))),.op (some 53) (.mv (.tmp 52)),.grd 53 true (some 54) (.op (some 54) (.fieldAddr 5 (.tmp 11))),.grd 53 true (some 55) (.op (some 55) (.mF (.tmp 54))),.grd 53 true (some 56) (.op (some 56) (.len 0 (.tmp 55))),.grd 53 true (some 57) (.op (some 57) (.eq false 0 (.tmp 56) (.const (.int .i64 0)))),.op (some 58) (.pick (.tmp 53) (.tmp 57) (.const (.bool false))),.op (some 4) (.mv (.tmp 58))]) .ret)
def lkC (LA LB E:aH):aH:=.seq (.region [.op (some 7) (.mv (.const (.str afz)))]) (.seq (.seq (.region [.op (some 8) (.mv (.const (.int .i64 0)))]) (.block 0 LA)) (.seq (.region [.op (some 27) (.lit [(.int .u8 0)] 1 0 []),.op (some 9) (.mv (.tmp 27))]) (.seq (.seq (.region [.op (some 10) (.mv (.const (.int .i64 0)))]) (.block 2 LB)) E)))
def lkS (C:aH):aH:=.seq (.region [.op (some 4) (.mv (.const (.bool false)))]) (.seq (.region [.call (some 12) 4 [],.op (some 5) (.mv (.tmp 12))]) (.seq (.region [.op (some 13) (.mv (.tmp 0)),.op (some 14) (.bin .rem (.tmp 13) (.const (.int .u8 5))),.op (some 15) (.iF .i64 (.tmp 14)),.op (some 6) (.mv (.tmp 15))]) (.seq (.seq (.region [.op (some 16) (.mv (.tmp 1)),.op (some 17) (.len 0 (.tmp 16)),.op (some 18) (.eq true 0 (.tmp 17) (.const (.int .i64 1000)))]) (.cond (.tmp 18) (.seq (.region [.op (some 19) (.mv (.tmp 5)),.op (some 4) (.mv (.tmp 19))]) .ret) .skip)) C)))
theorem Zx:(Tab.vf3).body=lkS (lkC (.loop lkA) (.loop lkB) lkE):=rfl
def Vs:Nat→List Nat
 |0=>afz
 |i+1=>Vs i++afA
theorem Yo {a b:Nat} (hb:Nat.beq b 0=false):kW (.int .u8 (.ofNat a)) (.int .u8 (.ofNat b))=some (.int .u8 (.ofNat (a%b))):=by
 have h1:vZ (.ofNat b) 0=false:=hb
 simp only [kW,h1,eqK,Bool.not_true,Bool.or_self,cond_false]
 rfl
theorem agC {a:Nat}:kW (.int .u8 (.ofNat a)) (.int .u8 5)=some (.int .u8 (.ofNat (a%5))):=Yo (b:=5) rfl
theorem apd {a:Nat}:kW (.int .u8 (.ofNat a)) (.int .u8 250)=some (.int .u8 (.ofNat (a%250))):=Yo (b:=250) rfl
theorem wrap_u8 {a:Nat} (h:a<256):yj .i64 (.ofNat a)=.ofNat a:=by
 have:Nat.blt a 9223372036854775808=true:=by simp;omega
 show (bif Nat.blt a 9223372036854775808 then Int.ofNat a else _)=_
 rw [this];rfl
variable {mm:iO} {fns:Nat→Option ak} {fr xs:List V} {h h2:H} {T o2 s:V} {txt:List Nat} {i n b nZ len M N:Nat} {j:Nat}
def IG (mm:iO) (fns:Nat→Option ak) (src:List V):Prop :=
 ∀ (h:H) (nZ:Nat) (cs:List V),getCells h nZ=some cs→nZ<h.next→(∀ k,k<1000→∃ b,bn k cs=some (.int .u8 (.ofNat b))∧b<254)→∃ M j h2,∀ k,runM mm fns (M+k) (.call 5 [.list src false,.int .i64 4000,.int .i64 100,.hsl nZ 0 1000 none 1]) [] [] h
   = .val (.agg [.int .i64 (.ofNat 4),.int .i64 (.ofNat 0),.int .i64 (.ofNat 0),.int .i64 (.ofNat 0),.int .i64 (.ofNat 0),.aj,.str [],.int .i64 (.ofNat 0),.int .i64 (.ofNat 0),.int .i64 (.ofNat j)]) h2
theorem Z9 {l:List V} {k:Nat} {v:V} (h:bn k l=some v):∃ r,skip k l=v::r:=by
 unfold bn at h
 cases hs:skip k l with
 |nil=>rw [hs] at h;cases h
 |cons x r=>rw [hs] at h;cases h;exact ⟨r,rfl⟩
structure TB (fr xs:List V) (txt:List Nat) (T:V) (i:Nat):Prop where
 fl:fr.length=59
 s1:aO fr 1=.list xs false
 s5:aO fr 5=.bool true
 s7:aO fr 7=.str txt
 s9:aO fr 9=T
 s10:aO fr 10=.int .i64 (.ofNat i)
set_option maxHeartbeats 8000000 in
theorem apI (hI:TB fr xs txt T i) (hi:Nat.ble (i+1) xs.length=true) (hg:bn i xs=some (.agg [.int .u8 (.ofNat b)])) (hT:isVal T=true∧zL T=false) (hi3:Nat.ble i 9223372036854775806=true) (hO:isVal o2=true∧zL o2=false)
  (hap:∀ (fr:List V) (lo:Lo) (x y:aF),x.ev fr=T→y.ev fr=.list [.int .u8 (.ofNat (b%250))] true→aU 1 x y fr lo h=.ok o2 lo h2) :
  ∃ bZ,(∀ N,runM mm fns (N+100) (.code lkB) fr [] h=.norm bZ [] h2)∧TB bZ xs txt o2 (i+1):=by
 have hlen:=hI.fl
 obtain ⟨r,hg⟩:=Z9 hg
 refine ⟨?bZ,?eq,?tb⟩
 case eq =>
  intro N
  simp -implicitDefEqProofs only [lkB,WW,dA,gG,aZ,jh,dD,bI,aK,cu,cO,eY,iE,fU,eP,aP,bD,aX,dB,dh,fO,aS,bU,cZ,bW,pad,aF.ev,aF.evs,lF,dI,eF,bg,dQ,dS,bH,splice,bG,takeN,skip,dO,jg,bY,Nat.reduceAdd,Nat.reduceMul,Nat.reduceSub,Nat.beq,Nat.blt,Nat.ble,leave,finish,resV,eG,mk,eH,fE,kC,gq,fZ,eqK,lH,dZ,dK,iK,gJ,jF,OR.iG,findLabel,bn,iM,fC,leI,aY,bK,dJ,hlen,hI.s1,hI.s5,hI.s7,hI.s9,hI.s10,hi,hg,hT.1,hT.2,hO.1,hO.2,hi3,apd,hap,rep,chunk,elemOf,ne_eq,dL,Nat.reduceEqDiff,Nat.reduceLT,Nat.mul_one]
  rfl
 case tb =>
  constructor<;>simp only [aY,bK,dJ,hlen,hI.s1,hI.s5,hI.s7,hI.s9,hI.s10,ne_eq,dL,Nat.reduceEqDiff,Nat.reduceLT]
set_option maxHeartbeats 8000000 in
theorem apJ (hI:TB fr xs txt T xs.length) :
  ∃ bZ,(∀ N,runM mm fns (N+100) (.code lkB) fr [] h=.jump (.exit 2) bZ [] h)∧TB bZ xs txt T xs.length:=by
 have hlen:=hI.fl
 have hi:Nat.ble (xs.length+1) xs.length=false:=by
  cases hq:Nat.ble (xs.length+1) xs.length with
  |false=>rfl
  |true=>have:=Nat.le_of_ble_eq_true hq;omega
 refine ⟨?bZ,?eq,?tb⟩
 case eq =>
  intro N
  simp -implicitDefEqProofs only [lkB,WW,dA,gG,aZ,jh,dD,bI,aK,cu,cO,eY,iE,fU,eP,aP,bD,aX,dB,dh,fO,aS,bU,cZ,bW,pad,aF.ev,aF.evs,lF,dI,eF,bg,dQ,dS,bH,splice,bG,takeN,skip,dO,jg,bY,Nat.reduceAdd,Nat.reduceMul,Nat.reduceSub,Nat.beq,Nat.blt,Nat.ble,leave,finish,resV,eG,mk,eH,fE,kC,gq,fZ,eqK,lH,dZ,dK,iK,gJ,jF,OR.iG,findLabel,bn,iM,fC,leI,aY,bK,dJ,hlen,hI.s1,hI.s5,hI.s7,hI.s9,hI.s10,hi,ne_eq,dL,Nat.reduceEqDiff,Nat.reduceLT,Nat.mul_one]
  rfl
 case tb =>
  constructor<;>simp only [aY,bK,dJ,hlen,hI.s1,hI.s5,hI.s7,hI.s9,hI.s10,ne_eq,dL,Nat.reduceEqDiff,Nat.reduceLT]
inductive Trn (xs:List V):Nat→H→V→Prop
 |nil {h:H}:Trn xs 0 h (.list [] true)
 |some {i id:Nat} {h:H} {cs:List V} (hi:0<i) (hg:getCells h id=some cs) (hid:id<h.next) (hl:cs.length=i) (hc:∀ k b,k<i→bn k xs=some (.agg [.int .u8 (.ofNat b)])→bn k cs=some (.int .u8 (.ofNat (b%250)))):Trn xs i h (.hsl id 0 i none 1)
theorem Et:∀ {cs ds:List V} {k:Nat},k<cs.length→bn k (cs++ds)=bn k cs
 |[],_,_,h=>by simp at h
 |c::cs,ds,0,_=>rfl
 |c::cs,ds,k+1,h=>Et (cs:=cs) (k:=k) (by simpa using h)
theorem Es:∀ {cs:List V} {d:V},bn cs.length (cs++[d])=some d
 |[],_=>rfl
 |c::cs,d=>Es (cs:=cs)
theorem ahr (hT:Trn xs i h T) (hg:bn i xs=some (.agg [.int .u8 (.ofNat b)])) (hi:i<10000) :
  ∃ o2 h2,(∀ (fr:List V) (lo:Lo) (x y:aF),x.ev fr=T→y.ev fr=.list [.int .u8 (.ofNat (b%250))] true→aU 1 x y fr lo h=.ok o2 lo h2)∧Trn xs (i+1) h2 o2∧isVal o2=true∧zL o2=false:=by
 have key:∀ (T o2:V) (h2:H),wM h 1 T 1 [.int .u8 (.ofNat (b%250))]=some (o2,h2)→∀ (fr:List V) (lo:Lo) (x y:aF),x.ev fr=T→y.ev fr=.list [.int .u8 (.ofNat (b%250))] true→aU 1 x y fr lo h=.ok o2 lo h2:=fun T o2 h2 ha fr lo x y h1 h3=>by
  unfold aU
  rw [h3,h1]
  have hs:dM h 1 1 (.list [.int .u8 (.ofNat (b%250))] true)=some [.int .u8 (.ofNat (b%250))]:=rfl
  simp only [gU,List.length_cons,List.length_nil,Nat.zero_add,hs,show dO [.int .u8 (.ofNat (b%250))]=true from rfl,cond_true,ha,ORp]
 cases hT with
 |nil =>
  refine ⟨.hsl h.next 0 1 none 1,h.new (.cells [.int .u8 (.ofNat (b%250))]),key _ _ _ rfl,?_,rfl,rfl⟩
  refine .some (by omega) (by rw [oz,if_pos rfl]) (Nat.lt_succ_self _) rfl fun k c hk hc=>?_
  have:k=0:=by omega
  subst this
  rw [hg] at hc
  cases hc
  rfl
 |@some _ id _ cs h0 hg1 hid hl hc =>
  have hn:Nat.ble (i+1) 16777216=true:=by simp;omega
  have h1:vT (i*1) (getCells h id) 0=.some cs:=by
   rw [hg1,Nat.mul_one,←hl]
   simp only [vT,skip,BQ]
  have h2:Nat.ble i i=true:=by simp
  refine ⟨.hsl h.next 0 (i+1) none 1,(h.del id).new (.cells (cs++[.int .u8 (.ofNat (b%250))])),key _ _ _ ?_,?_,rfl,rfl⟩
  ·simp only [wM,zO,dM,h1,h2,Nat.beq,cond_false,cond_true,Bool.and_true,jA,hn]
   rfl
  ·refine .some (by omega) (by rw [show h.next=(h.del id).next from rfl,oz,if_pos rfl]) (by show h.next<h.next+1;omega) (by simp [hl]) fun k c hk hcx=>?_
   by_cases hki:k<i
   ·rw [Et (by omega)]
    exact hc k c hki hcx
   ·have:k=i:=by omega
    subst this
    rw [hg] at hcx
    cases hcx
    have:=Es (cs:=cs) (d:=.int .u8 (.ofNat (b%250)))
    rwa [hl] at this
theorem apL (hT:Trn xs i h T):isVal T=true∧zL T=false:=by cases hT<;>exact ⟨rfl,rfl⟩
theorem aaj (hx:∀ k,k<xs.length→∃ b,bn k xs=some (.agg [.int .u8 (.ofNat b)])) (hl:xs.length<10000):∀ (m:Nat) {i:Nat} {fr:List V} {h:H} {T:V},i+m=xs.length→TB fr xs txt T i→Trn xs i h T →
  ∃ bZ h2 T2,(∀ N,runM mm fns (N+101+m) (.code (.loop lkB)) fr [] h=.jump (.exit 2) bZ [] h2)∧TB bZ xs txt T2 xs.length∧Trn xs xs.length h2 T2
 |0,i,fr,h,T,hm,hI,hT=>by
  have:i=xs.length:=by omega
  subst this
  obtain ⟨bZ,h1,h2⟩:=apJ (mm:=mm) (fns:=fns) (h:=h) hI
  refine ⟨bZ,h,T,fun N=>?_,h2,hT⟩
  rw [show N+101+0=N+100+1 by omega,lV]
  simp only [dA,h1,yM]
 |m+1,i,fr,h,T,hm,hI,hT=>by
  obtain ⟨b,hb⟩:=hx i (by omega)
  obtain ⟨o2,h2,k1,k2,k3⟩:=ahr hT hb (by omega)
  obtain ⟨bZ,h3,h4⟩:=apI (mm:=mm) (fns:=fns) hI (by simp;omega) hb (apL hT) (by simp;omega) k3 k1
  obtain ⟨E5,h5,T3,g1,g2,g3⟩:=aaj hx hl m (i:=i+1) (by omega) h4 k2
  refine ⟨E5,h5,T3,fun N=>?_,g2,g3⟩
  rw [show N+101+(m+1)=(N+1+m)+100+1 by omega,lV]
  simp only [dA,h3,ru]
  rw [show N+1+m+100=N+101+m by omega]
  exact g1 N
structure TA (fr:List V) (s:V) (N:Nat) (txt:List Nat) (i:Nat):Prop where
 fl:fr.length=59
 s1:aO fr 1=s
 s5:aO fr 5=.bool true
 s6:aO fr 6=.int .i64 (.ofNat N)
 s7:aO fr 7=.str txt
 s8:aO fr 8=.int .i64 (.ofNat i)
set_option maxHeartbeats 8000000 in
theorem apG (hI:TA fr s N txt i) (hi:Nat.ble (i+1) N=true) (hi3:Nat.ble i 9223372036854775806=true) (hb:Nat.ble (txt.length+afA.length) 4294967295=true) :
  ∃ bZ,(∀ N,runM mm fns (N+100) (.code lkA) fr [] h=.norm bZ [] h)∧TA bZ s N (txt++afA) (i+1):=by
 have hlen:=hI.fl
 have hs:=hI.s1
 refine ⟨?bZ,?eq,?tb⟩
 case eq =>
  intro N
  simp -implicitDefEqProofs only [lkA,WW,dA,gG,aZ,jh,dD,bI,aK,cu,cO,eY,iE,fU,eP,aP,bD,aX,dB,dh,fO,aS,bU,cZ,bW,pad,aF.ev,aF.evs,lF,dI,eF,bg,dQ,dS,bH,splice,bG,takeN,skip,dO,jg,bY,Nat.reduceAdd,Nat.reduceMul,Nat.reduceSub,Nat.beq,Nat.blt,Nat.ble,leave,finish,resV,eG,mk,eH,fE,kC,gq,fZ,eqK,lH,dZ,dK,iK,gJ,jF,OR.iG,findLabel,bn,iM,fC,leI,aY,bK,dJ,hlen,hI.s5,hI.s6,hI.s7,hI.s8,hi,hi3,hb,ne_eq,dL,Nat.reduceEqDiff,Nat.reduceLT,Nat.mul_one]
  rfl
 case tb =>
  constructor<;>simp only [aY,bK,dJ,hlen,hI.s1,hI.s5,hI.s6,hI.s7,hI.s8,ne_eq,dL,Nat.reduceEqDiff,Nat.reduceLT]
set_option maxHeartbeats 8000000 in
theorem apH (hI:TA fr s N txt N) :
  ∃ bZ,(∀ N,runM mm fns (N+100) (.code lkA) fr [] h=.jump (.exit 0) bZ [] h)∧TA bZ s N txt N:=by
 have hlen:=hI.fl
 have hi:Nat.ble (N+1) N=false:=by
  cases hq:Nat.ble (N+1) N with
  |false=>rfl
  |true=>have:=Nat.le_of_ble_eq_true hq;omega
 refine ⟨?bZ,?eq,?tb⟩
 case eq =>
  intro q
  simp -implicitDefEqProofs only [lkA,WW,dA,gG,aZ,jh,dD,bI,aK,cu,cO,eY,iE,fU,eP,aP,bD,aX,dB,dh,fO,aS,bU,cZ,bW,pad,aF.ev,aF.evs,lF,dI,eF,bg,dQ,dS,bH,splice,bG,takeN,skip,dO,jg,bY,Nat.reduceAdd,Nat.reduceMul,Nat.reduceSub,Nat.beq,Nat.blt,Nat.ble,leave,finish,resV,eG,mk,eH,fE,kC,gq,fZ,eqK,lH,dZ,dK,iK,gJ,jF,OR.iG,findLabel,bn,iM,fC,leI,aY,bK,dJ,hlen,hI.s5,hI.s6,hI.s7,hI.s8,hi,ne_eq,dL,Nat.reduceEqDiff,Nat.reduceLT,Nat.mul_one]
  rfl
 case tb =>
  constructor<;>simp only [aY,bK,dJ,hlen,hI.s1,hI.s5,hI.s6,hI.s7,hI.s8,ne_eq,dL,Nat.reduceEqDiff,Nat.reduceLT]
theorem aow:∀ {i:Nat},i≤4→Nat.ble ((Vs i).length+afA.length) 4294967295=true
 |0,_=>by decide +kernel
 |1,_=>by decide +kernel
 |2,_=>by decide +kernel
 |3,_=>by decide +kernel
 |4,_=>by decide +kernel
 |i+5,h=>by omega
theorem aai (hN:N≤4):∀ (m:Nat) {i:Nat} {fr:List V},i+m=N→TA fr s N (Vs i) i→∃ bZ,(∀ q,runM mm fns (q+101+m) (.code (.loop lkA)) fr [] h=.jump (.exit 0) bZ [] h)∧TA bZ s N (Vs N) N
 |0,i,fr,hm,hI=>by
  have:i=N:=by omega
  subst this
  obtain ⟨bZ,h1,h2⟩:=apH (mm:=mm) (fns:=fns) (h:=h) hI
  refine ⟨bZ,fun q=>?_,h2⟩
  rw [show q+101+0=q+100+1 by omega,lV]
  simp only [dA,h1,yM]
 |m+1,i,fr,hm,hI=>by
  obtain ⟨bZ,h3,h4⟩:=apG (mm:=mm) (fns:=fns) (h:=h) hI (by simp;omega) (by simp;omega) (aow (by omega))
  obtain ⟨E5,g1,g2⟩:=aai hN m (i:=i+1) (by omega) h4
  refine ⟨E5,fun q=>?_,g2⟩
  rw [show q+101+(m+1)=(q+1+m)+100+1 by omega,lV]
  simp only [dA,h3,ru]
  rw [show q+1+m+100=q+101+m by omega]
  exact g1 q
end
def Qo (v:V):List V:=match v with|.tuple l=>l|_=>[]
def p0 (r:V):V:=aO (cellsD (aO (Qo r) 0)) 0
def p1 (r:V):V:=aO (cellsD (aO (Qo r) 0)) 1
def pa (r:V):V:=aO (cellsD (aO (Qo r) 1)) 0
def pb (r:V):V:=aO (cellsD (aO (Qo r) 1)) 1
def isInt (v:V):Bool:=match v with|.int _ _=>true|_=>false
def aIq (v:V):Bool:=match v with|.list _ e=>e|_=>false
noncomputable def axk (C:Cst) (nd:V) (s:Ks) (rb:V):Bool:=l9 rb (.tuple [.agg [C.ops,C.defs,.list [nd] (aIq (aO (cellsD (aO (Qo rb) 0)) 2)),.int .i64 C.most,.aj,jn 0,.aj,.list [.agg (subs (rA fun j=>j) s.x)] true,.aj],.int .i64 (.ofNat 0)])&&(zH [nd]&&(HY nd&&(qo 1 nd&&l9 (sub (rA fun j=>j) nd) nd)))
noncomputable def Jp (C:Cst) (s:Ks) (rp rc rb:V):Bool :=
 (match s.l with|[nd]=>axk C nd s rb|_=>false)&&(isN s.c&&(xB 1 s.x&&(qC s.x &&
 (l9 rp (.tuple [.agg [p0 rp,p1 rp],.agg [pa rp,pb rp],.int .i64 (.ofNat 0)])&&(fD (p0 rp)&&(fD (p1 rp)&&(fD (pa rp)&&(fD (pb rp) &&
 (l9 rc (.tuple [.agg [C.ops,C.defs],aO (Qo rc) 1,.int .i64 (.ofNat 0)])&&isInt (aO (Qo rc) 1))))))))))
theorem xI {mm:iO} {fns:Nat→Option ak} {C:Cst} {N:Nat} {S:Nat→Ks} {K:Nat→Nat} (hR:WR mm fns) (hF:Facts C N S K) (hO:CU C N S K) (hm:C.most=4000) (hd:C.deep=100) (ht:tot N K<1000)
  {rp rc rb:V} {src:List V} (hg:Jp C (S 0) rp rc rb=true)
  (FN:aG mm 7 [.list src false]=some rp)
  (hcode:aG mm 8 [.agg [p0 rp,p1 rp]]=some rc)
  (hidx:aG mm 9 [p1 rp,.func (.func 10) [] []]=some (.int .i64 0))
  (WS:aG mm 11 [.agg [C.ops,C.defs],.int .i64 0,.int .i64 4000]=some rb) :
  IG mm fns src:=by
 intro h nZ cs hgc uj hcs
 unfold Jp at hg
 simp only [au] at hg
 obtain ⟨b1,b2,b3,b4,b5,b6,b7,b8,b9,b10,b11⟩:=hg
 obtain ⟨nd,hl⟩:∃ nd,(S 0).l=[nd]:=by
  cases hq:(S 0).l with
  |nil=>rw [hq] at b1;cases b1
  |cons x r =>
   cases r with
   |nil=>exact ⟨x,rfl⟩
   |cons y r=>rw [hq] at b1;cases b1
 rw [hl] at b1
 have b1:axk C nd (S 0) rb=true:=b1
 unfold axk at b1
 simp only [au] at b1
 obtain ⟨c1,c2,c3,c4,c5⟩:=b1
 have hc:(S 0).c=.aj:=by
  cases hq:(S 0).c with
  |aj=>rfl
  |_=>rw [hq] at b2;cases b2
 obtain ⟨vk,vn,hv1⟩:∃ k n,aO (Qo rc) 1=.int k n:=by
  cases hq:aO (Qo rc) 1 with
  |int k n=>exact ⟨k,n,rfl⟩
  |_=>rw [hq] at b11;cases b11
 have hI:=an6 hF (X:=.agg (subs (rA fun j=>j) (S 0).x)) hl c2 c3 c4 (jS c5) rfl hc b3 b4
 have k1:=jS b5
 have k2:=jS b10
 have k3:=jS c1
 rw [k1] at FN
 rw [k2] at hcode
 rw [k3] at WS
 rw [←hm] at WS ⊢
 rw [←hd]
 obtain ⟨M,j,h2,hr⟩:=ab9 (Y:=mkY C N S K) (WH hF) (aeA hF hO) hO.stuck hR hI (src:=.list src false) (ix:=0) (len:=1000) ⟨_,_,rfl⟩ FN hcode hidx WS ⟨vk,vn,hv1⟩ b6 b7 b8 b9 hgc uj ht (fun i hi=>by
  obtain ⟨b,e1,e2⟩:=hcs i hi
  obtain ⟨r,e3⟩:=Z9 e1
  exact ⟨b,r,e3,e2⟩)
 exact ⟨M,j,h2,hr⟩
section
variable {mm:iO} {fns:Nat→Option ak} {fr xs F:List V} {h h2:H} {T s:V} {txt:List Nat} {i n b nZ M N j:Nat} {C L D:aH}
theorem Yn {a:Nat}:kW (.int .u8 (.ofNat a)) (.int .u8 (.ofNat 5))=some (.int .u8 (.ofNat (a%5))):=Yo (b:=5) rfl
theorem OA {a:Nat}:vZ (.ofNat a) 1000=Nat.beq a 1000:=rfl
structure TS (fr:List V) (s:V) (N:Nat):Prop where
 fl:fr.length=59
 s1:aO fr 1=s
 s5:aO fr 5=.bool true
 s6:aO fr 6=.int .i64 (.ofNat N)
set_option maxHeartbeats 8000000 in
theorem afE (hF:F.length=59) (f0:aO F 0=.int .u8 (.ofNat n)) (f1:aO F 1=.list xs false) (hn:n<256) (haw:aG mm 4 []=some (.bool true)) (hl:Nat.beq xs.length 1000=true) :
  ∃ fr,(∀ N,runM mm fns (N+100) (.code (lkS C)) F [] h=dA (runM mm fns (N+95)) C fr [] h)∧TS fr (.list xs false) (n%5):=by
 have hw:=wrap_u8 (a:=n%5) (by omega)
 have haw:=fun N fr lo h=>iZ (fns:=fns) (n:=N) (fr:=fr) (lo:=lo) (h:=h) haw
 refine ⟨?fr,?eq,?ts⟩
 case eq =>
  intro N
  simp -implicitDefEqProofs only [lkS,WW,Dh,uT,CZ,I5,CY,yC,Dc,C9,I4,gG,aZ,jh,dD,bI,aK,cu,cO,eY,iE,fU,eP,aP,bD,aX,dB,dh,fO,aU,aS,bU,cZ,bW,pad,aF.ev,aF.evs,lF,dI,eF,bg,dQ,dS,bH,splice,bG,takeN,skip,dO,jg,bY,Nat.reduceAdd,Nat.reduceMul,Nat.reduceSub,Nat.beq,Nat.blt,Nat.ble,leave,finish,resV,eG,mk,eH,fE,kC,gq,fZ,eqK,lH,dZ,dK,iK,gJ,jF,OR.iG,findLabel,bn,iM,fC,leI,aY,bK,dJ,hF,f0,f1,hw,haw,agC,Yn,OA,hl,ne_eq,dL,Nat.reduceEqDiff,Nat.reduceLT,Nat.mul_one]
  rfl
 case ts =>
  constructor<;>simp only [aY,bK,dJ,hF,f0,f1,ne_eq,dL,Nat.reduceEqDiff,Nat.reduceLT]
set_option maxHeartbeats 8000000 in
theorem afD (hF:F.length=59) (f0:aO F 0=.int .u8 (.ofNat n)) (f1:aO F 1=s) (hs:s=.aj∨∃ xs,s=.list xs false∧Nat.beq xs.length 1000=false) (hn:n<256) (haw:aG mm 4 []=some (.bool true)) :
  ∃ fr,(∀ N,runM mm fns (N+100) (.code (lkS C)) F [] h=.jump .ret fr [] h)∧aO fr 4=.bool true:=by
 have hw:=wrap_u8 (a:=n%5) (by omega)
 have haw:=fun N fr lo h=>iZ (fns:=fns) (n:=N) (fr:=fr) (lo:=lo) (h:=h) haw
 rcases hs with rfl|⟨xs,rfl,hl⟩
 ·refine ⟨?fr,?eq,?ts⟩
  case eq =>
   intro N
   simp -implicitDefEqProofs only [lkS,WW,Dh,uT,CZ,I5,CY,yC,Dc,C9,I4,gG,aZ,jh,dD,bI,aK,cu,cO,eY,iE,fU,eP,aP,bD,aX,dB,dh,fO,aU,aS,bU,cZ,bW,pad,aF.ev,aF.evs,lF,dI,eF,bg,dQ,dS,bH,splice,bG,takeN,skip,dO,jg,bY,Nat.reduceAdd,Nat.reduceMul,Nat.reduceSub,Nat.beq,Nat.blt,Nat.ble,leave,finish,resV,eG,mk,eH,fE,kC,gq,fZ,eqK,lH,dZ,dK,iK,gJ,jF,OR.iG,findLabel,bn,iM,fC,leI,aY,bK,dJ,hF,f0,f1,hw,haw,agC,Yn,OA,ne_eq,dL,Nat.reduceEqDiff,Nat.reduceLT,Nat.mul_one]
   rfl
  case ts=>simp only [aY,bK,dJ,hF,f0,f1,ne_eq,dL,Nat.reduceEqDiff,Nat.reduceLT]
 ·refine ⟨?frb,?eqb,?tsb⟩
  case eqb =>
   intro N
   simp -implicitDefEqProofs only [lkS,WW,Dh,uT,CZ,I5,CY,yC,Dc,C9,I4,gG,aZ,jh,dD,bI,aK,cu,cO,eY,iE,fU,eP,aP,bD,aX,dB,dh,fO,aU,aS,bU,cZ,bW,pad,aF.ev,aF.evs,lF,dI,eF,bg,dQ,dS,bH,splice,bG,takeN,skip,dO,jg,bY,Nat.reduceAdd,Nat.reduceMul,Nat.reduceSub,Nat.beq,Nat.blt,Nat.ble,leave,finish,resV,eG,mk,eH,fE,kC,gq,fZ,eqK,lH,dZ,dK,iK,gJ,jF,OR.iG,findLabel,bn,iM,fC,leI,aY,bK,dJ,hF,f0,f1,hw,haw,agC,Yn,OA,hl,ne_eq,dL,Nat.reduceEqDiff,Nat.reduceLT,Nat.mul_one]
   rfl
  case tsb=>simp only [aY,bK,dJ,hF,f0,f1,ne_eq,dL,Nat.reduceEqDiff,Nat.reduceLT]
set_option maxHeartbeats 8000000 in
theorem aBu (hI:TS fr s N):∃ bZ,(∀ q,runM mm fns (q+100) (.code (.seq (.region [.op (some 7) (.mv (.const (.str afz)))]) (.seq (.seq (.region [.op (some 8) (.mv (.const (.int .i64 0)))]) (.block 0 L)) D))) fr [] h=vI (runM mm fns (q+98)) D (mP 0 (dA (runM mm fns (q+95)) L bZ [] h)))∧TA bZ s N afz 0:=by
 have hF:=hI.fl
 have hs:=hI.s1
 refine ⟨?fr,?eq,?ts⟩
 case eq =>
  intro q
  simp -implicitDefEqProofs only [WW,Dh,uT,CZ,I5,CY,yC,Dc,C9,I4,gG,aZ,jh,dD,bI,aK,cu,cO,eY,iE,fU,eP,aP,bD,aX,dB,dh,fO,aU,aS,bU,cZ,bW,pad,aF.ev,aF.evs,lF,dI,eF,bg,dQ,dS,bH,splice,bG,takeN,skip,dO,jg,bY,Nat.reduceAdd,Nat.reduceMul,Nat.reduceSub,Nat.beq,Nat.blt,Nat.ble,leave,finish,resV,eG,mk,eH,fE,kC,gq,fZ,eqK,lH,dZ,dK,iK,gJ,jF,OR.iG,findLabel,bn,iM,fC,leI,aY,bK,dJ,hF,ne_eq,dL,Nat.reduceEqDiff,Nat.reduceLT,Nat.mul_one]
  rfl
 case ts =>
  constructor<;>first|rfl|simp only [aY,bK,dJ,hF,hI.s1,hI.s5,hI.s6,ne_eq,dL,Nat.reduceEqDiff,Nat.reduceLT]
set_option maxHeartbeats 8000000 in
theorem aBv (hI:TA fr (.list xs false) N txt N):∃ bZ,(∀ q,runM mm fns (q+100) (.code (.seq (.region [.op (some 27) (.lit [(.int .u8 0)] 1 0 []),.op (some 9) (.mv (.tmp 27))]) (.seq (.seq (.region [.op (some 10) (.mv (.const (.int .i64 0)))]) (.block 2 L)) D))) fr [] h=vI (runM mm fns (q+98)) D (mP 2 (dA (runM mm fns (q+95)) L bZ [] h)))∧TB bZ xs txt (.list [] true) 0:=by
 have hF:=hI.fl
 refine ⟨?fr,?eq,?ts⟩
 case eq =>
  intro q
  simp -implicitDefEqProofs only [WW,Dh,uT,CZ,I5,CY,yC,Dc,C9,I4,gG,aZ,jh,dD,bI,aK,cu,cO,eY,iE,fU,eP,aP,bD,aX,dB,dh,fO,aU,aS,bU,cZ,bW,pad,aF.ev,aF.evs,lF,dI,eF,bg,dQ,dS,bH,splice,bG,takeN,skip,dO,jg,bY,Nat.reduceAdd,Nat.reduceMul,Nat.reduceSub,Nat.beq,Nat.blt,Nat.ble,leave,finish,resV,eG,mk,eH,fE,kC,gq,fZ,eqK,lH,dZ,dK,iK,gJ,jF,OR.iG,findLabel,bn,iM,fC,leI,aY,bK,dJ,hF,rep,chunk,elemOf,fO,ne_eq,dL,Nat.reduceEqDiff,Nat.reduceLT,Nat.mul_one]
  rfl
 case ts =>
  constructor<;>first|rfl|simp only [aY,bK,dJ,hF,hI.s1,hI.s5,hI.s7,ne_eq,dL,Nat.reduceEqDiff,Nat.reduceLT]
set_option maxHeartbeats 8000000 in
theorem ayu (hI:TB fr xs txt (.hsl nZ 0 1000 none 1) i) (hb:Nat.ble (txt.length+BX.length) 4294967295=true)
  (hrun:∀ k,runM mm fns (M+k) (.call 5 [.list (ofBytes (txt++BX)) false,.int .i64 4000,.int .i64 100,.hsl nZ 0 1000 none 1]) [] [] h
   = .val (.agg [.int .i64 (.ofNat 4),.int .i64 (.ofNat 0),.int .i64 (.ofNat 0),.int .i64 (.ofNat 0),.int .i64 (.ofNat 0),.aj,.str [],.int .i64 (.ofNat 0),.int .i64 (.ofNat 0),.int .i64 (.ofNat j)]) h2) :
  ∃ bZ lo2,(∀ k,runM mm fns (M+k+100) (.code lkE) fr [] h=.jump .ret bZ lo2 h2)∧aO bZ 4=.bool true:=by
 have hF:=hI.fl
 refine ⟨?fr,?lo,?eq,?ts⟩
 case eq =>
  intro k
  have hrun:∀ q,runM mm fns (M+k+q) (.call 5 [.list (ofBytes (txt++BX)) false,.int .i64 4000,.int .i64 100,.hsl nZ 0 1000 none 1]) [] [] h
   = .val (.agg [.int .i64 (.ofNat 4),.int .i64 (.ofNat 0),.int .i64 (.ofNat 0),.int .i64 (.ofNat 0),.int .i64 (.ofNat 0),.aj,.str [],.int .i64 (.ofNat 0),.int .i64 (.ofNat 0),.int .i64 (.ofNat j)]) h2:=fun q=>by
   have:=hrun (k+q);rwa [←Nat.add_assoc] at this
  generalize M+k=M0 at *
  simp -implicitDefEqProofs only [lkE,WW,Dh,uT,CZ,I5,CY,yC,Dc,C9,I4,gG,aZ,jh,dD,bI,aK,cu,cO,eY,iE,fU,eP,aP,bD,aX,dB,dh,fO,aU,aS,bU,cZ,bW,pad,aF.ev,aF.evs,lF,dI,eF,bg,dQ,dS,bH,splice,bG,takeN,skip,dO,jg,bY,Nat.reduceAdd,Nat.reduceMul,Nat.reduceSub,Nat.beq,Nat.blt,Nat.ble,leave,finish,resV,eG,mk,eH,fE,kC,gq,fZ,eqK,lH,dZ,dK,iK,gJ,jF,OR.iG,findLabel,bn,iM,fC,leI,aY,bK,dJ,eU,gV,iP,jq,ig,iR,jo,iQ,jm,iq,iT,fJ,iI,hF,hI.s5,hI.s7,hI.s9,hb,hrun,jU,ne_eq,dL,Nat.reduceEqDiff,Nat.reduceLT,Nat.mul_one]
  rfl
 case ts =>
  simp only [aY,bK,dJ,eU,hF,ne_eq,dL,Nat.reduceEqDiff,Nat.reduceLT]
theorem Tf {lo:List (Nat×List V)} (hr:aO fr 4=.bool true):∃ h3,GK Tab.vf3 (.jump .ret fr lo h)=.val (.bool true) h3:=by
 have hres:(Tab.vf3).results=[(4,false,false,0)]:=rfl
 refine ⟨h,?_⟩
 show finish Tab.vf3 (resV fr lo h (Tab.vf3).results) h=_
 rw [hres]
 simp only [resV,hr]
 rfl
theorem afB:∀ {i:Nat},i≤4→Nat.ble ((Vs i).length+BX.length) 4294967295=true
 |0,_=>by decide +kernel
 |1,_=>by decide +kernel
 |2,_=>by decide +kernel
 |3,_=>by decide +kernel
 |4,_=>by decide +kernel
 |i+5,h=>by omega
theorem ayv (hrec:∀ a,aG mm 3 a=none) (hfn:fns 3=some Tab.vf3) (haw:aG mm 4 []=some (.bool true)) (hn:n<256)
  (hx:∀ k,k<xs.length→∃ b,bn k xs=some (.agg [.int .u8 (.ofNat b)])) (hl:xs.length=1000)
  (hrun:IG mm fns (ofBytes (Vs (n%5)++BX))) :
  ∃ N h2,∀ m,N≤m→runM mm fns m (.call 3 [.int .u8 (.ofNat n),.list xs false]) [] [] h=.val (.bool true) h2:=by
 obtain ⟨F,WQ⟩:∃ F,F=pad 59 [.int .u8 (.ofNat n),.list xs false]:=⟨_,rfl⟩
 obtain ⟨wX,e1,i1⟩:=afE (mm:=mm) (fns:=fns) (h:=h) (F:=F) (C:=lkC (.loop lkA) (.loop lkB) lkE) (n:=n) (xs:=xs) (by rw [WQ];rfl) (by rw [WQ];rfl) (by rw [WQ];rfl) hn haw (by rw [hl];rfl)
 obtain ⟨bZ,e2,i2⟩:=aBu (mm:=mm) (fns:=fns) (h:=h) (L:=.loop lkA) (D:=.seq (.region [.op (some 27) (.lit [(.int .u8 0)] 1 0 []),.op (some 9) (.mv (.tmp 27))]) (.seq (.seq (.region [.op (some 10) (.mv (.const (.int .i64 0)))]) (.block 2 (.loop lkB))) lkE)) i1
 obtain ⟨E5,e3,i3⟩:=aai (mm:=mm) (fns:=fns) (h:=h) (by omega) (n%5) (i:=0) (by omega) i2
 obtain ⟨ML,e4,i4⟩:=aBv (mm:=mm) (fns:=fns) (h:=h) (L:=.loop lkB) (D:=lkE) i3
 obtain ⟨fr5,h5,T5,e5,i5,t5⟩:=aaj (mm:=mm) (fns:=fns) hx (by omega) 1000 (i:=0) (by omega) i4 .nil
 rw [hl] at i5 t5
 generalize hk:(1000:Nat)=K at t5
 cases t5 with
 |nil=>omega
 |@some _ id _ cs hi hg hid hcl hc =>
  subst hk
  obtain ⟨M,j,h6,hr⟩:=hrun h5 id cs hg hid fun k hk=>by
   obtain ⟨b,hb⟩:=hx k (by omega)
   exact ⟨b%250,hc k b hk hb,by omega⟩
  obtain ⟨fr6,lo6,e6,i6⟩:=ayu i5 (afB (by omega)) hr
  obtain ⟨h7,e7⟩:=Tf (lo:=lo6) (h:=h6) i6
  refine ⟨M+3000,h7,fun m hm=>?_⟩
  obtain ⟨q,rfl⟩:∃ q,m=M+q+2000:=⟨m-M-2000,by omega⟩
  have hq:n%5≤4:=by omega
  rw [show M+q+2000=(M+q+1899)+100+1 by omega,dY (hrec _) hfn rfl,Zx,show (Tab.vf3).nt=59 from rfl,←WQ,e1,←lV,
   show M+q+1899+95+1=(M+q+1895)+100 by omega,show lkC (.loop lkA) (.loop lkB) lkE=.seq (.region [.op (some 7) (.mv (.const (.str afz)))]) (.seq (.seq (.region [.op (some 8) (.mv (.const (.int .i64 0)))]) (.block 0 (.loop lkA))) (.seq (.region [.op (some 27) (.lit [(.int .u8 0)] 1 0 []),.op (some 9) (.mv (.tmp 27))]) (.seq (.seq (.region [.op (some 10) (.mv (.const (.int .i64 0)))]) (.block 2 (.loop lkB))) lkE))) from rfl,e2,←lV,
   show M+q+1895+95+1=(M+q+1890-n%5)+101+n%5 by omega,e3,Ae,show Nat.beq 0 0=true from rfl,cond_true,ru,
   show M+q+1895+98=(M+q+1893)+100 by omega,e4,←lV,show M+q+1893+95+1=(M+q+888)+101+1000 by omega,e5,Ae,show Nat.beq 2 2=true from rfl,cond_true,ru,
   show M+q+1893+98=M+(q+1891)+100 by omega,e6]
  exact e7
theorem afC (hrec:∀ a,aG mm 3 a=none) (hfn:fns 3=some Tab.vf3) (haw:aG mm 4 []=some (.bool true)) (hn:n<256)
  (hs:s=.aj∨∃ xs,s=.list xs false∧Nat.beq xs.length 1000=false) :
  ∃ N h2,∀ m,N≤m→runM mm fns m (.call 3 [.int .u8 (.ofNat n),s]) [] [] h=.val (.bool true) h2:=by
 obtain ⟨F,WQ⟩:∃ F,F=pad 59 [.int .u8 (.ofNat n),s]:=⟨_,rfl⟩
 obtain ⟨wX,e1,i1⟩:=afD (mm:=mm) (fns:=fns) (h:=h) (F:=F) (C:=lkC (.loop lkA) (.loop lkB) lkE) (n:=n) (s:=s) (by rw [WQ];rfl) (by rw [WQ];rfl) (by rw [WQ];rfl) hs hn haw
 obtain ⟨h7,e7⟩:=Tf (lo:=[]) (h:=h) i1
 refine ⟨101,h7,fun m hm=>?_⟩
 obtain ⟨q,rfl⟩:∃ q,m=q+100+1:=⟨m-101,by omega⟩
 rw [dY (hrec _) hfn rfl,Zx,show (Tab.vf3).nt=59 from rfl,←WQ,e1]
 exact e7
end
end Go.Vx
namespace Go.Vx.Tab
noncomputable def flA (l:List (Nat×List V×V)) (f:Nat):List (List V×V):=List.rec [] (fun e _ ih=>Bool.rec ih (e.2::ih) (Nat.beq e.1 f)) l
noncomputable def rcA (m:List (List V×V)) (args:List V):Option V:=List.rec none (fun e _ ih=>Bool.rec ih (some e.2) (yG e.1 args)) m
noncomputable def mOf (l:List (Nat×List V×V)):iO:=fun f=>some ⟨rcA (flA l f)⟩
theorem OH {f:Nat} {x:List V×V}:∀ {l:List (Nat×List V×V)},x∈flA l f→(f,x)∈l
 |[],h=>by cases h
 |e::l,h=>by
  have h1:flA (e::l) f=Bool.rec (flA l f) (e.2::flA l f) (Nat.beq e.1 f):=rfl
  rw [h1] at h
  cases hb:Nat.beq e.1 f with
  |false=>rw [hb] at h;exact eX _ (OH h)
  |true =>
   rw [hb] at h
   rcases List.mem_cons.1 h with h|h
   ·rw [h,←aJ hb]
    exact fF
   ·exact eX _ (OH h)
theorem ZX {a:List V} {v:V}:∀ {m:List (List V×V)},rcA m a=some v→(a,v)∈m
 |[],h=>by cases h
 |e::m,h=>by
  have h1:rcA (e::m) a=Bool.rec (rcA m a) (some e.2) (yG e.1 a):=rfl
  rw [h1] at h
  cases hc:yG e.1 a with
  |false=>rw [hc] at h;exact eX _ (ZX h)
  |true =>
   rw [hc] at h
   cases h
   rw [←uh _ _ hc]
   exact fF
def Ans (f:Nat) (a:List V) (v:V):Prop:=∀ σ,nM Go.Proofs.Tryz.prog qQ f a σ (.val v σ)
def Le:List (Nat×List V×V)→Prop
 |[]=>True
 |e::l=>Ans e.1 e.2.1 e.2.2∧Le l
theorem Le.mem:∀ {l:List (Nat×List V×V)},Le l→∀ e∈l,Ans e.1 e.2.1 e.2.2
 |[],_,e,h=>by cases h
 |a::l,hl,e,h=>by
  rcases List.mem_cons.1 h with rfl|h
  ·exact hl.1
  ·exact Le.mem hl.2 e h
theorem Pq {l:List (Nat×List V×V)} (hl:Le l):qR Go.Proofs.Tryz.prog qQ (mOf l):=fun f a v hm σ=>Le.mem hl _ (OH (ZX hm)) σ
theorem ans_of {l:List (Nat×List V×V)} {f:Nat} {a:List V} {v:V} {n:Nat} (hl:Le l) (h:qN (pz (mOf l) fns n (.call f a) zX bx0 emp) v=true) (ha:bT a=true) (hv:aW v=true):Ans f a v :=
 fun σ=>arD (lW (Pq hl)) h ha hv σ
abbrev fB (e:Nat×List V×V):Prop:=Ans e.1 e.2.1 e.2.2
noncomputable def TT (l:List (Nat×List V×V)) (e:Nat×List V×V):Bool:=qN (pz (mOf l) fns 1000000 (.call e.1 e.2.1) zX bx0 emp) e.2.2&&(bT e.2.1&&aW e.2.2)
theorem aI {l:List (Nat×List V×V)} {e:Nat×List V×V} (hl:Le l) (h:TT l e=true):fB e:=by
 unfold TT at h
 simp only [au] at h
 exact ans_of hl h.1 h.2.1 h.2.2
end Go.Vx.Tab
