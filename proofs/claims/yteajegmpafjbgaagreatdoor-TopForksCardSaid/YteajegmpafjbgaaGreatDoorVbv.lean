/- A part of the proof of TopForks. -/
import Derived.Test.YteajegmpafjbgaaGreatDoorRows
import Derived.WalkKit
import Derived.ProofKit
import Derived.OpenShut
import Derived.Below
import Derived.ChangeVars
import Derived.JoinedOf
import Derived.LaidLaws
import Derived.LaidHandle
import Derived.Stop.Joined
import Derived.Lay
import Derived.LaidOnce
import Derived.SevenTiedAt
import Derived.ShutString
import Derived.ChangeOld
import Derived.Test.YteajegmpafjbgaaGreatDoorVbp
import Derived.Test.YteajegmpafjbgaaGreatDoorVbs
import Derived.Test.YteajegmpafjbgaaGreatDoorVbt
import Derived.Test.YteajegmpafjbgaaGreatDoorVbu
set_option linter.all false
set_option maxRecDepth 1000000
set_option maxHeartbeats 80000000
noncomputable section
section
namespace Go.Proofs.YteajegmpafjbgaaGreatDoor.topForks
open Go.ChangeShapes Go.WideShapes Go.ChangeAt Go.RowKit
open Go.Vx
theorem own:ownKnob Tryz.prog.godebug=none:=by kernel_rfl
theorem walk(n:Nat)(hn:n<256)(v:Value)(w:World)(hv:BytesIn w v) :
  Calls Tryz.prog 3 #[.int .u8 n,v] w λe w'=>e=.returned (.bool true)/\Below w.heap.size w w':=by
 have key:∃(g:G) (s:V),(s=.aj\/∃bs:List Nat,(∀b∈bs,b<256)/\s=.list (bs.map λb=>V.agg [.int .u8 (.ofNat b)]) false)/\Rv g s v/\Rw Tryz.prog (aX Tryz.prog Go.Vx.vZ) g emp w/\∀k,(∀o,g.φ k o=none)\/g.pin k:=by
  rcases hv with rfl|⟨b,o,cap,bs,rfl,hc,hb⟩
  .exact⟨⟨λ_=>none,λ_ _=>none,λ_=>False,λ_ h=>h.elim⟩,.aj,.inl rfl,.aj,⟨λb o v e=>(by cases e),λi ob h=>(by rw[CS]at h;cases h),λi j b m k h=>(by rw[CS]at h;cases h),λi _=>⟨rfl,rfl⟩,λi b m h=>(by cases h)⟩,λ_=>.inl λ_=>rfl⟩
  .refine⟨⟨λ_=>none,λk x=>if k=b then w.cell? ⟨b,x,none⟩else none,λk=>k=b/\∃x,w.cell? ⟨b,x,none⟩≠none,λk h=>?_⟩,.list (bs.map λb=>V.agg [.int .u8 (.ofNat b)]) false,(.inr ⟨bs,(λx hx=>by obtain⟨i,hi⟩:=List.getElem?_of_mem hx;exact(hb i x hi).1),rfl⟩),?_,⟨λk x y e=>?_,λi ob h=>(by rw[CS]at h;cases h),λi j b m k h=>(by rw[CS]at h;cases h),λi _=>⟨rfl,rfl⟩,λi b m h=>(by cases h)⟩,λk=>?_⟩
   .obtain⟨rfl,x,hx⟩:=h;exact⟨x,by rw[if_pos rfl];exact hx⟩
   .have hlen:(bs.map λb=>V.agg [.int .u8 (.ofNat b)]).length=bs.length:=by simp
    have hget:∀(i:Nat) (x:V) (j:Nat) (c:V),(bs.map λb=>V.agg [.int .u8 (.ofNat b)])[i]?=some x->x.cells[j]?=some c->j=0/\∃n,bs[i]?=some n/\c=.int .u8 (.ofNat n):=λi x j c hx hj=>by
     rw[List.getElem?_map]at hx;cases hb:bs[i]? with
     |none=>rw[hb]at hx;cases hx
     |some n =>
      rw[hb]at hx;cases hx;cases j with
      |zero=>exact⟨rfl,n,rfl,by simpa[V.cells]using hj.symm⟩
      |succ j=>simp[V.cells]at hj
    rw[<- hlen];refine .list 1 (λi _=>.int .u8 (.ofNat (bs.getD i 0))) (λx hx=>?_) (by rw[hlen];exact hc) (λe=>by cases e) (λx hx e=>?_) (λi x j c hx hj=>?_) (λi x j c hx hj=>?_)
    .obtain⟨n,_,rfl⟩:=List.mem_map.1 hx;rfl
    .obtain⟨n,_,rfl⟩:=List.mem_map.1 hx;cases e
    .obtain⟨rfl,n,h1,rfl⟩:=hget i x j c hx hj;have:o+i*1+0=o+i:=by omega
     show(if b=b then w.cell? ⟨b,o+i*1+0,none⟩else none)=_;rw[if_pos rfl,this,(hb i n h1).2];simp[List.getD,h1]
    .obtain⟨rfl,n,h1,rfl⟩:=hget i x j c hx hj;have:bs.getD i 0=n:=by simp[List.getD,h1]
     rw[this];exact .int _ _
   .dsimp only at e
    split at e
    .rename_i h;subst h;exact e
    .cases e
   .by_cases hk:k=b
    .by_cases hq:∃x,w.cell? ⟨b,x,none⟩≠none
     .exact .inr ⟨hk,hq⟩
     .exact .inl λx=>(if_pos hk).trans (Classical.byContradiction λhx=>hq ⟨x,hx⟩)
    .exact .inl λx=>if_neg hk
 obtain⟨g,s,hs,hr,hw,alr⟩:=key;rcases agU hn hs emp g #[.int .u8 (n:Int),v] w (.bool true) emp (.cons (.int .u8 n) (.cons hr (.nil _))) hw rfl with⟨h1,h2⟩|⟨h1,_⟩
 .refine(CallsIn.calls h2 (λ_=>by intro d hd;cases hd)).mono λe w' he=>?_;cases e with
  |returned x =>
   obtain⟨g',k1,k2,k3⟩:=he;cases k1;exact⟨rfl,k3.qg.os,k3.qg.tape,k3.qg.output,k3.qg.size,λk hk=>k3.qg.block k hk Eo (by rintro ⟨t,h⟩;cases h) (alr k)⟩
  |_=>exact he.elim
 .obtain⟨b,k,c,e,_⟩:=h1;rcases hs with rfl|⟨bs,_,rfl⟩<;>simp at e
theorem laidOut:laidOutB Tryz.prog=true:=by kernel_rfl
theorem w3(os:Os):Input.okWideB Tryz.prog (W0 os) 3 ⟨#[],#[.int .u8 0,.slice none 0 0],[]⟩=true:=by kernel_rfl
theorem w4(os:Os)(H:Type)(enc:TypeId×Value->H):Rows.topForksSpec.preB enc Tryz.prog Tryz.f3 [] false (W0 os).memory #[.int .u8 0,.slice none 0 0] 8=true:=by kernel_rfl
theorem w5(os:Os)(H:Type)(enc:TypeId×Value->H):Rows.topForksSpec.sizedB enc Tryz.prog Tryz.f3 false (W0 os).memory #[.int .u8 0,.slice none 0 0] 8=true:=by kernel_rfl
theorem lw(os:Os):laidMetH Tryz.prog Rows.topForksRow.laid (W0 os).memory:=by
 rw[MakeChecks.laidMetH_plain _ _ _ (by kernel_rfl)];exact ac3 os _
theorem wit(os:Os)(H:Type)(enc:TypeId×Value->H):∃(w:World) (tape:Tape) (i:Input),w.os=os/\(w.forCall tape i).Shaped Tryz.prog/\i.vars=[]/\Input.okWide Tryz.prog (w.forCall tape i) .any w.heap.size 3 i /\
   ((Rows.topForksSpec.pre enc Tryz.prog Tryz.f3 [] false (w.forCall tape i).memory i.args/\laidMetH Tryz.prog Rows.topForksRow.laid (w.forCall tape i).memory)/\sizedMet enc Tryz.prog Tryz.f3 (OpenSpec.ofChange Rows.topForksSpec) false (w.forCall tape i).memory i.args)/\({}:Assume).holds Tryz.prog (lone (Frame.enter Tryz.prog 3 i.args .normal) [] (w.forCall tape i)) :=
 ChangeSpec.witness_shaped (enc:=enc) (C:=Tryz.checked) (os:=os) (X:=λw _=>laidMetH Tryz.prog Rows.topForksRow.laid w) false (World.laidAll Tryz.prog os Rows.topForksRow.laid) #[.int .u8 0,.slice none 0 0] 8 (World.laidAll_os _ _ _)
   (World.shaped_of_ZipB (w1 os) (w2 os)) (w3 os) (w4 os H enc) (w5 os H enc) (lw os)
theorem lifted(os:Os)(started:os.Started)(H:Type)(enc:TypeId×Value->H) :
  ReturnsInHanded {} Tryz.checked os 3 .any (λw args=>(Rows.topForksSpec.pre enc Tryz.prog Tryz.f3 [] false w args/\laidMetH Tryz.prog Rows.topForksRow.laid w)/\sizedMet enc Tryz.prog Tryz.f3 (OpenSpec.ofChange Rows.topForksSpec) false w args)
   (Rows.topForksSpec.post enc Tryz.prog Tryz.f3 false true false false):=by
 refine returnsInHanded_of_change_and (C:=Tryz.checked) (X:=λw _=>laidMetH Tryz.prog Rows.topForksRow.laid w) (λ_ _ _ hh h=>h.of_heap hh) own started (by kernel_rfl) Tryz.func3
  (wit os H enc) ?_
 intro W base args ds gs before hval0 hW _ _ hL _;have hval:∀(j:Nat) t v,Tryz.f3.params[j]?=some t->args[j]?=some v->Value.okWide Tryz.prog W .any base t v:=hval0;have hW':=hW;obtain⟨p,q,hA0,hV0,rfl,hfz,hnd⟩:=hW;have hA:DataW.TrodAll enc Tryz.prog W 0 (λ_=>true) true Tryz.f3.params.toList args.toList ds p:=hA0;rw[Tryz.params3]at hA hval;obtain⟨v0,vs0,d0,ds0,p0,q0,hargs,rfl,rfl,h0,r0⟩:=trodAll_cons hA;obtain⟨v1,vs1,d1,ds1,p1,q1,rfl,rfl,rfl,h1,r1⟩:=trodAll_cons r0;obtain⟨rfl,rfl,rfl⟩:=trodAll_nil r1;obtain rfl:args=#[v0,v1]:=by cases args;simp_all
 obtain⟨rfl,rfl⟩:=trodVars_none hV0;obtain⟨a0,rfl,rfl,rfl,w0⟩:=open_int Tryz.underlying5 (hval 0 5 v0 rfl rfl) h0;have k1:=h1;have lt1:∀x∈p1,x.block<W.heap.size:=by obtain⟨m,hm⟩:=k1;exact DataW.trod_lt m _ _ _ hm
 have b1:=abB (hval 1 22 v1 rfl rfl) h1;obtain⟨z0,z1⟩:=bounds_u8 w0;obtain⟨n,rfl⟩:=Int.eq_ofNat_of_zero_le z0;clear hA0 hval0;refine(walk n (by omega) v1 W b1).mono λe W' ⟨he,bel⟩=>?_;subst he;exact⟨_,rfl,_,_,_,[],_,[],hW',trodAll_mk1 (shut_bool Tryz.underlying4 _),(trodAll_cons_mk (shut_int Tryz.underlying5 w0) (trodAll_cons_mk (Below.trod laidOut (by kernel_rfl) (of_decide_eq_true (by kernel_rfl)) k1 bel lt1) trodAll_mk0)),rfl,bel.frame _,λh=>by cases h⟩
theorem over:Rows.topForksRow.holds Tryz.pinned (OpenSpec.ofChange Rows.topForksSpec) :=
 OpenClaim.holds_of_wide 3 Tryz.f3 rfl rfl rfl rfl rfl rfl rfl ⟨rfl,rfl,rfl,rfl,rfl⟩ rfl rfl rfl rfl rfl (by kernel_rfl) Tryz.func3 closed
  (of_decide_eq_true (by kernel_rfl)) (by unfold Func.isWrapper;first|(rw[if_pos (by decide +kernel)];kernel_rfl)|(rw[if_neg (by decide +kernel)];exact⟨rfl,rfl⟩))
  (λos started H enc _=>lifted os started H enc)
end Go.Proofs.YteajegmpafjbgaaGreatDoor.topForks
end
