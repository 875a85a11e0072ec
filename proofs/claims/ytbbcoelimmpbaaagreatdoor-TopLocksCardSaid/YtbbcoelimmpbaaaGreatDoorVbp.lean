/- A part of the proof of TopLocks. -/
import Derived.Test.YtbbcoelimmpbaaaGreatDoorVbh
import Derived.Test.YtbbcoelimmpbaaaGreatDoorVbi
import Derived.Test.YtbbcoelimmpbaaaGreatDoorVbj
import Derived.Test.YtbbcoelimmpbaaaGreatDoorVbk
import Derived.Test.YtbbcoelimmpbaaaGreatDoorVbl
import Derived.Test.YtbbcoelimmpbaaaGreatDoorVbm
import Derived.Test.YtbbcoelimmpbaaaGreatDoorVbn
import Derived.Test.YtbbcoelimmpbaaaGreatDoorVbo
set_option linter.all false
set_option linter.unusedVariables false
set_option linter.unusedSimpArgs false
set_option maxRecDepth 1000000
noncomputable section
namespace Go.Vx.L0
section
open Go
noncomputable section
theorem bools:(kX s0.c&&(Nat.beq s0.x.length 11&&(fD C.ops&&(fD C.defs&&(jO C.ops&&(jO C.defs&&(aW C.ops&&aW C.defs)))))))=true:=by decide +kernel
theorem facts (lN:∀ (ts:List Nat) (t:Nat),ts.Nodup→(∀ u∈ts,u≤0)→t≤0+1→t∉ts→Cc 438 [wv ts,jn t,zl] (.tuple [wv (ts++[t]),.int .i64 0])) (zZ:Cc 70 [.agg [C.ops,C.defs]] (.bool true)):Facts C 0 S K:=by
 have hb:=bools
 simp only [au] at hb
 obtain ⟨q1,q2,q3,q4,q5,q6,q7,q8⟩:=hb
 obtain ⟨m1,m2⟩:=xJ main
 refine { cst:=⟨q5,q6,q7,q8,zZ⟩,most:=by decide,room:=by decide,JZ:=lN,main:=fun k hk=>by have:=m1 k hk;rwa [Bool.true_and] at this,JH:=m2 rfl,kid:=?_,pR:=?_,k0:=?_,s0:=⟨rfl,rfl,aJ q2,q1⟩,sk:=?_ }
 ·intro t ht h0
  omega
 ·intro t m ht h0 hm hm2
  omega
 ·intro t ht
  unfold K
  cases Nat.beq t 0<;>decide
 ·intro t ht h0
  omega
theorem yH:CU C 0 S K:=by
 have hb:=bools
 simp only [au] at hb
 obtain ⟨q1,q2,q3,q4,q5,q6,q7,q8⟩:=hb
 refine { pops:=q3,CG:=q4,ov:=?_,sm:=?_,fin:=e1,stuck:=e2,col:=fun bs hl hr=>ad7 bs (by omega) hr,Dk:=Dk }
 ·intro t ht
  rcases (show t=0 from by omega) with rfl
  ·exact jX ov0
 ·intro t ht h0
  omega
end
end
end Go.Vx.L0
namespace Go.Vx.L1
section
open Go
noncomputable section
theorem XE:(∀ k,k<39→Fb C 1 (Nat.beq (k+1) 39) (kV C 1 k k1))∧aO (kV C 1 39 k1).x 0=jn 2:=by
 obtain ⟨h1,h2⟩:=qy b1
 exact ⟨fun k hk=>by have:=h1 k hk;rwa [Bool.true_and] at this,h2 rfl⟩
theorem bools:(kX s0.c&&(Nat.beq s0.x.length 11&&(fD C.ops&&(fD C.defs&&(jO C.ops&&(jO C.defs&&(aW C.ops&&aW C.defs)))))))=true:=by decide +kernel
theorem Dt:((Nat.beq k1.x.length 11&&kX k1.c))=true:=by decide +kernel
theorem facts (lN:∀ (ts:List Nat) (t:Nat),ts.Nodup→(∀ u∈ts,u≤1)→t≤1+1→t∉ts→Cc 438 [wv ts,jn t,zl] (.tuple [wv (ts++[t]),.int .i64 0])) (zZ:Cc 70 [.agg [C.ops,C.defs]] (.bool true)):Facts C 1 S K:=by
 have hb:=bools
 simp only [au] at hb
 obtain ⟨q1,q2,q3,q4,q5,q6,q7,q8⟩:=hb
 obtain ⟨m1,m2⟩:=xJ main
 refine { cst:=⟨q5,q6,q7,q8,zZ⟩,most:=by decide,room:=by decide,JZ:=lN,main:=fun k hk=>by have:=m1 k hk;rwa [Bool.true_and] at this,JH:=m2 rfl,kid:=?_,pR:=?_,k0:=?_,s0:=⟨rfl,rfl,aJ q2,q1⟩,sk:=?_ }
 ·intro t ht h0
  rcases (show t=1 from by omega) with rfl
  ·exact XE
 ·intro t m ht h0 hm hm2
  rcases (show t=1 from by omega) with rfl
  ·rcases (show m=2 from by omega) with rfl
   ·exact jK VQ
 ·intro t ht
  unfold K
  cases Nat.beq t 0<;>decide
 ·intro t ht h0
  have hk:=Dt
  simp only [au] at hk
  obtain ⟨q1,r1⟩:=hk
  rcases (show t=1 from by omega) with rfl
  ·exact ⟨rfl,aJ q1,r1⟩
theorem yH:CU C 1 S K:=by
 have hb:=bools
 simp only [au] at hb
 obtain ⟨q1,q2,q3,q4,q5,q6,q7,q8⟩:=hb
 refine { pops:=q3,CG:=q4,ov:=?_,sm:=?_,fin:=e1,stuck:=e2,col:=fun bs hl hr=>ad7 bs (by omega) hr,Dk:=Dk }
 ·intro t ht
  rcases (show t=0∨t=1 from by omega) with rfl|rfl
  ·exact jX ov0
  ·exact jX ov1
 ·intro t ht h0
  rcases (show t=1 from by omega) with rfl
  ·rfl
end
end
end Go.Vx.L1
namespace Go.Vx.L2
section
open Go
noncomputable section
theorem XE:(∀ k,k<39→Fb C 1 (Nat.beq (k+1) 39) (kV C 1 k k1))∧aO (kV C 1 39 k1).x 0=jn 2:=by
 obtain ⟨h1,h2⟩:=qy b1
 exact ⟨fun k hk=>by have:=h1 k hk;rwa [Bool.true_and] at this,h2 rfl⟩
theorem afn:(∀ k,k<39→Fb C 2 (Nat.beq (k+1) 39) (kV C 2 k k2))∧aO (kV C 2 39 k2).x 0=jn 2:=by
 obtain ⟨h1,h2⟩:=qy b2
 exact ⟨fun k hk=>by have:=h1 k hk;rwa [Bool.true_and] at this,h2 rfl⟩
theorem bools:(kX s0.c&&(Nat.beq s0.x.length 11&&(fD C.ops&&(fD C.defs&&(jO C.ops&&(jO C.defs&&(aW C.ops&&aW C.defs)))))))=true:=by decide +kernel
theorem Dt:((Nat.beq k1.x.length 11&&kX k1.c)&&(Nat.beq k2.x.length 11&&kX k2.c))=true:=by decide +kernel
theorem facts (lN:∀ (ts:List Nat) (t:Nat),ts.Nodup→(∀ u∈ts,u≤2)→t≤2+1→t∉ts→Cc 438 [wv ts,jn t,zl] (.tuple [wv (ts++[t]),.int .i64 0])) (zZ:Cc 70 [.agg [C.ops,C.defs]] (.bool true)):Facts C 2 S K:=by
 have hb:=bools
 simp only [au] at hb
 obtain ⟨q1,q2,q3,q4,q5,q6,q7,q8⟩:=hb
 obtain ⟨m1,m2⟩:=xJ main
 refine { cst:=⟨q5,q6,q7,q8,zZ⟩,most:=by decide,room:=by decide,JZ:=lN,main:=fun k hk=>by have:=m1 k hk;rwa [Bool.true_and] at this,JH:=m2 rfl,kid:=?_,pR:=?_,k0:=?_,s0:=⟨rfl,rfl,aJ q2,q1⟩,sk:=?_ }
 ·intro t ht h0
  rcases (show t=1∨t=2 from by omega) with rfl|rfl
  ·exact XE
  ·exact afn
 ·intro t m ht h0 hm hm2
  rcases (show t=1∨t=2 from by omega) with rfl|rfl
  ·rcases (show m=2∨m=3 from by omega) with rfl|rfl
   ·exact jK VQ
   ·exact jK adO
  ·rcases (show m=3 from by omega) with rfl
   ·exact jK adP
 ·intro t ht
  unfold K
  cases Nat.beq t 0<;>decide
 ·intro t ht h0
  have hk:=Dt
  simp only [au] at hk
  obtain ⟨⟨q1,r1⟩,⟨q2,r2⟩⟩:=hk
  rcases (show t=1∨t=2 from by omega) with rfl|rfl
  ·exact ⟨rfl,aJ q1,r1⟩
  ·exact ⟨rfl,aJ q2,r2⟩
theorem yH:CU C 2 S K:=by
 have hb:=bools
 simp only [au] at hb
 obtain ⟨q1,q2,q3,q4,q5,q6,q7,q8⟩:=hb
 refine { pops:=q3,CG:=q4,ov:=?_,sm:=?_,fin:=e1,stuck:=e2,col:=fun bs hl hr=>ad7 bs (by omega) hr,Dk:=Dk }
 ·intro t ht
  rcases (show t=0∨t=1∨t=2 from by omega) with rfl|rfl|rfl
  ·exact jX ov0
  ·exact jX ov1
  ·exact jX ov2
 ·intro t ht h0
  rcases (show t=1∨t=2 from by omega) with rfl|rfl
  ·rfl
  ·rfl
end
end
end Go.Vx.L2
namespace Go.Vx.L3
section
open Go
noncomputable section
theorem XE:(∀ k,k<39→Fb C 1 (Nat.beq (k+1) 39) (kV C 1 k k1))∧aO (kV C 1 39 k1).x 0=jn 2:=by
 obtain ⟨h1,h2⟩:=qy b1
 exact ⟨fun k hk=>by have:=h1 k hk;rwa [Bool.true_and] at this,h2 rfl⟩
theorem afn:(∀ k,k<39→Fb C 2 (Nat.beq (k+1) 39) (kV C 2 k k2))∧aO (kV C 2 39 k2).x 0=jn 2:=by
 obtain ⟨h1,h2⟩:=qy b2
 exact ⟨fun k hk=>by have:=h1 k hk;rwa [Bool.true_and] at this,h2 rfl⟩
theorem ayq:(∀ k,k<39→Fb C 3 (Nat.beq (k+1) 39) (kV C 3 k k3))∧aO (kV C 3 39 k3).x 0=jn 2:=by
 obtain ⟨h1,h2⟩:=qy b3
 exact ⟨fun k hk=>by have:=h1 k hk;rwa [Bool.true_and] at this,h2 rfl⟩
theorem bools:(kX s0.c&&(Nat.beq s0.x.length 11&&(fD C.ops&&(fD C.defs&&(jO C.ops&&(jO C.defs&&(aW C.ops&&aW C.defs)))))))=true:=by decide +kernel
theorem Dt:((Nat.beq k1.x.length 11&&kX k1.c)&&(Nat.beq k2.x.length 11&&kX k2.c)&&(Nat.beq k3.x.length 11&&kX k3.c))=true:=by decide +kernel
theorem facts (lN:∀ (ts:List Nat) (t:Nat),ts.Nodup→(∀ u∈ts,u≤3)→t≤3+1→t∉ts→Cc 438 [wv ts,jn t,zl] (.tuple [wv (ts++[t]),.int .i64 0])) (zZ:Cc 70 [.agg [C.ops,C.defs]] (.bool true)):Facts C 3 S K:=by
 have hb:=bools
 simp only [au] at hb
 obtain ⟨q1,q2,q3,q4,q5,q6,q7,q8⟩:=hb
 obtain ⟨m1,m2⟩:=xJ main
 refine { cst:=⟨q5,q6,q7,q8,zZ⟩,most:=by decide,room:=by decide,JZ:=lN,main:=fun k hk=>by have:=m1 k hk;rwa [Bool.true_and] at this,JH:=m2 rfl,kid:=?_,pR:=?_,k0:=?_,s0:=⟨rfl,rfl,aJ q2,q1⟩,sk:=?_ }
 ·intro t ht h0
  rcases (show t=1∨t=2∨t=3 from by omega) with rfl|rfl|rfl
  ·exact XE
  ·exact afn
  ·exact ayq
 ·intro t m ht h0 hm hm2
  rcases (show t=1∨t=2∨t=3 from by omega) with rfl|rfl|rfl
  ·rcases (show m=2∨m=3∨m=4 from by omega) with rfl|rfl|rfl
   ·exact jK VQ
   ·exact jK adO
   ·exact jK axh
  ·rcases (show m=3∨m=4 from by omega) with rfl|rfl
   ·exact jK adP
   ·exact jK axi
  ·rcases (show m=4 from by omega) with rfl
   ·exact jK axj
 ·intro t ht
  unfold K
  cases Nat.beq t 0<;>decide
 ·intro t ht h0
  have hk:=Dt
  simp only [au] at hk
  obtain ⟨⟨⟨q1,r1⟩,⟨q2,r2⟩⟩,⟨q3,r3⟩⟩:=hk
  rcases (show t=1∨t=2∨t=3 from by omega) with rfl|rfl|rfl
  ·exact ⟨rfl,aJ q1,r1⟩
  ·exact ⟨rfl,aJ q2,r2⟩
  ·exact ⟨rfl,aJ q3,r3⟩
theorem yH:CU C 3 S K:=by
 have hb:=bools
 simp only [au] at hb
 obtain ⟨q1,q2,q3,q4,q5,q6,q7,q8⟩:=hb
 refine { pops:=q3,CG:=q4,ov:=?_,sm:=?_,fin:=e1,stuck:=e2,col:=fun bs hl hr=>ad7 bs (by omega) hr,Dk:=Dk }
 ·intro t ht
  rcases (show t=0∨t=1∨t=2∨t=3 from by omega) with rfl|rfl|rfl|rfl
  ·exact jX ov0
  ·exact jX ov1
  ·exact jX ov2
  ·exact jX ov3
 ·intro t ht h0
  rcases (show t=1∨t=2∨t=3 from by omega) with rfl|rfl|rfl
  ·rfl
  ·rfl
  ·rfl
end
end
end Go.Vx.L3
namespace Go.Vx.L4
section
open Go
noncomputable section
theorem XE:(∀ k,k<39→Fb C 1 (Nat.beq (k+1) 39) (kV C 1 k k1))∧aO (kV C 1 39 k1).x 0=jn 2:=by
 obtain ⟨h1,h2⟩:=qy b1
 exact ⟨fun k hk=>by have:=h1 k hk;rwa [Bool.true_and] at this,h2 rfl⟩
theorem afn:(∀ k,k<39→Fb C 2 (Nat.beq (k+1) 39) (kV C 2 k k2))∧aO (kV C 2 39 k2).x 0=jn 2:=by
 obtain ⟨h1,h2⟩:=qy b2
 exact ⟨fun k hk=>by have:=h1 k hk;rwa [Bool.true_and] at this,h2 rfl⟩
theorem ayq:(∀ k,k<39→Fb C 3 (Nat.beq (k+1) 39) (kV C 3 k k3))∧aO (kV C 3 39 k3).x 0=jn 2:=by
 obtain ⟨h1,h2⟩:=qy b3
 exact ⟨fun k hk=>by have:=h1 k hk;rwa [Bool.true_and] at this,h2 rfl⟩
theorem aKY:(∀ k,k<39→Fb C 4 (Nat.beq (k+1) 39) (kV C 4 k k4))∧aO (kV C 4 39 k4).x 0=jn 2:=by
 obtain ⟨h1,h2⟩:=qy b4
 exact ⟨fun k hk=>by have:=h1 k hk;rwa [Bool.true_and] at this,h2 rfl⟩
theorem bools:(kX s0.c&&(Nat.beq s0.x.length 11&&(fD C.ops&&(fD C.defs&&(jO C.ops&&(jO C.defs&&(aW C.ops&&aW C.defs)))))))=true:=by decide +kernel
theorem Dt:((Nat.beq k1.x.length 11&&kX k1.c)&&(Nat.beq k2.x.length 11&&kX k2.c)&&(Nat.beq k3.x.length 11&&kX k3.c)&&(Nat.beq k4.x.length 11&&kX k4.c))=true:=by decide +kernel
theorem facts (lN:∀ (ts:List Nat) (t:Nat),ts.Nodup→(∀ u∈ts,u≤4)→t≤4+1→t∉ts→Cc 438 [wv ts,jn t,zl] (.tuple [wv (ts++[t]),.int .i64 0])) (zZ:Cc 70 [.agg [C.ops,C.defs]] (.bool true)):Facts C 4 S K:=by
 have hb:=bools
 simp only [au] at hb
 obtain ⟨q1,q2,q3,q4,q5,q6,q7,q8⟩:=hb
 obtain ⟨m1,m2⟩:=xJ main
 refine { cst:=⟨q5,q6,q7,q8,zZ⟩,most:=by decide,room:=by decide,JZ:=lN,main:=fun k hk=>by have:=m1 k hk;rwa [Bool.true_and] at this,JH:=m2 rfl,kid:=?_,pR:=?_,k0:=?_,s0:=⟨rfl,rfl,aJ q2,q1⟩,sk:=?_ }
 ·intro t ht h0
  rcases (show t=1∨t=2∨t=3∨t=4 from by omega) with rfl|rfl|rfl|rfl
  ·exact XE
  ·exact afn
  ·exact ayq
  ·exact aKY
 ·intro t m ht h0 hm hm2
  rcases (show t=1∨t=2∨t=3∨t=4 from by omega) with rfl|rfl|rfl|rfl
  ·rcases (show m=2∨m=3∨m=4∨m=5 from by omega) with rfl|rfl|rfl|rfl
   ·exact jK VQ
   ·exact jK adO
   ·exact jK axh
   ·exact jK aIb
  ·rcases (show m=3∨m=4∨m=5 from by omega) with rfl|rfl|rfl
   ·exact jK adP
   ·exact jK axi
   ·exact jK aIc
  ·rcases (show m=4∨m=5 from by omega) with rfl|rfl
   ·exact jK axj
   ·exact jK aId
  ·rcases (show m=5 from by omega) with rfl
   ·exact jK aIe
 ·intro t ht
  unfold K
  cases Nat.beq t 0<;>decide
 ·intro t ht h0
  have hk:=Dt
  simp only [au] at hk
  obtain ⟨⟨⟨⟨q1,r1⟩,⟨q2,r2⟩⟩,⟨q3,r3⟩⟩,⟨q4,r4⟩⟩:=hk
  rcases (show t=1∨t=2∨t=3∨t=4 from by omega) with rfl|rfl|rfl|rfl
  ·exact ⟨rfl,aJ q1,r1⟩
  ·exact ⟨rfl,aJ q2,r2⟩
  ·exact ⟨rfl,aJ q3,r3⟩
  ·exact ⟨rfl,aJ q4,r4⟩
theorem yH:CU C 4 S K:=by
 have hb:=bools
 simp only [au] at hb
 obtain ⟨q1,q2,q3,q4,q5,q6,q7,q8⟩:=hb
 refine { pops:=q3,CG:=q4,ov:=?_,sm:=?_,fin:=e1,stuck:=e2,col:=fun bs hl hr=>ad7 bs (by omega) hr,Dk:=Dk }
 ·intro t ht
  rcases (show t=0∨t=1∨t=2∨t=3∨t=4 from by omega) with rfl|rfl|rfl|rfl|rfl
  ·exact jX ov0
  ·exact jX ov1
  ·exact jX ov2
  ·exact jX ov3
  ·exact jX ov4
 ·intro t ht h0
  rcases (show t=1∨t=2∨t=3∨t=4 from by omega) with rfl|rfl|rfl|rfl
  ·rfl
  ·rfl
  ·rfl
  ·rfl
end
end
end Go.Vx.L4
