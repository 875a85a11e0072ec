/- A part of the proof of TopForks. -/
import Derived.RecoverIn
import Derived.KernelRfl
import Derived.Test.YteajegmpafjbgaaGreatDoorProg
import Derived.Test.YteajegmpafjbgaaGreatDoorVac
set_option linter.all false
set_option maxRecDepth 1000000
set_option maxHeartbeats 80000000
noncomputable section
namespace Go.Vx
section
open Go Go.RowKit
open Go.Proofs
variable {P:Program}
def Y3(args:Array Value)(w:World):(callFunc 155 args).run Tryz.prog w=.ok (.enter 155 args) w :=
 vT Tryz.func155 rfl (by decide) args w
def Xc{o:Oper}{Q:Exit->Act->List Frame->World->Prop}{a:Act}{c₀:Frame}{cs:List Frame}{w:World}(hg:o.guard=none)(hr:(execOp a.eval o).run P w=.ok .recover w)(hc:recoverD (c₀::cs)=none)
  (h:Q .normal (a.put o.dst .nilIface) (c₀::cs) w):wpOpsSIn (Fw none) 0 P #[o] Q (List.range 1) a (c₀::cs) w:=by
 have h1:List.range 1=[0]:=rfl;have h2:(#[o]:Array Oper)[0]?=some o:=rfl;rw[h1];unfold wpOpsSIn;rw[h2];dsimp only;refine⟨λ_ _=>trivial,?_⟩;rw[if_pos (by simp[Region.wanted,hg]),hr];dsimp only;rw[hc];exact h
def one_step{o:Oper}{Q:Exit->Act->World->Prop}{a:Act}{w:World}{v:Value}(hg:o.guard=none)(hr:(execOp a.eval o).run P w=.ok (.value v) w)(h:Q .normal (a.put o.dst v) w):wpOpsIn (Fw none) 0 P #[o] Q (List.range 1) a w:=by
 have h1:List.range 1=[0]:=rfl;have h2:(#[o]:Array Oper)[0]?=some o:=rfl;rw[h1];unfold wpOpsIn;rw[h2];dsimp only;rw[if_pos (by simp[Region.wanted,hg])];refine⟨λ_ _=>trivial,?_⟩;rw[show(Fw none).round=none from rfl,Oper.semAt_none,hr,Oper.uponIn_value];exact h
def eval_put{a:Act}{t:Nat}{x:Value}(h:t<a.tmps.size):(a.put (some t) x).eval (.tmp t)=x:=by
 simp[Act.eval,Act.put,Array.getD,h]
def anb{a:Act}{d:Option Nat}{x:Value}:(a.put d x).tmps.size=a.tmps.size:=by
 cases d<;>simp[Act.put]
def NK:A8 Tryz.prog 155 where
 enters:=Y3
 calls args w:=by
  refine callsDIn_of_wpSIn Tryz.func155 rfl trivial λc₀ cs hm=>?_;generalize ha:({ tmps:=args++Array.replicate (Tryz.f155.ntmps-args.size) undef,defers:=[] }:Act)=a;have hd:a.defers=[]:=by rw[<- ha]
  have hs:13<=a.tmps.size:=by rw[<- ha];simp[Tryz.f155];omega
  clear ha;refine wpSIn_seq (wpSIn_region ?_);refine Xc rfl rfl (by simp[recoverD,hm]) ?_;refine wpSIn_of_wpIn rfl ?_;refine wpIn_block (wpIn_seq (wpIn_region ?_));have h5:=eval_put (a:=a) (t:=5) (x:=.nilIface) (by omega);refine one_step rfl (v:=.bool true) ?_ ?_
  .simp only[execOp,h5]
   kernel_rfl
  .refine wpIn_cond (t:=true) ?_ ?_
   .exact eval_put (by rw[anb];omega)
   .refine wpIn_region (one_step rfl (v:=.nilIface) ?_ ?_)
    .have h6:((a.put (some 5) .nilIface).put (some 7) (.bool true)).eval (.tmp 5)=.nilIface:=by
      have q:5<a.tmps.size:=by omega
      simp[Act.eval,Act.put,Array.getD,q]
     simp only[execOp,h6];rfl
    .refine⟨by simpa[Act.put]using hd,.returning,?_,.tuple #[],?_,⟨_,rfl⟩,rfl,rfl,rfl,rfl,rfl⟩
     .cases c₀;simp only at hm;subst hm;rfl
     .unfold results;have e:Tryz.f155.results=#[]:=rfl;rw[e,Sem.run_bind,Array.mapM_eq_mapM_toList];rfl
end
end Go.Vx
