/- A part of the proof of TopForks. -/
import Derived.Test.YteajegmpafjbgaaGreatDoorRows
import GoSem.ClaimGoes
import Derived.KernelRfl
set_option maxRecDepth 1000000
set_option maxHeartbeats 80000000
noncomputable section
section
namespace Go.Proofs.YteajegmpafjbgaaGreatDoor.topForks
open Go
theorem aDK:Tryz.pinned.checked.prog.funcs.toList.all (λf=>!f.goes)=true:=by kernel_rfl
theorem ag1{P:Program}(h:P.funcs.toList.all (λf=>!f.goes)=true)(f:FuncId):P.goes f=false:=by
 rw[List.all_eq_true]at h;have h1:P.funcs.any Func.goes=false:=by
  rw[Bool.eq_false_iff];intro ha;rw[Array.any_eq_true']at ha;obtain⟨x,hx,hg⟩:=ha;have:=h x (Array.mem_toList_iff.2 hx);rw[hg]at this;cases this
 unfold Program.goes;rw[h1,Bool.and_false,Bool.or_false,Bool.eq_false_iff];intro ha;rw[List.any_eq_true]at ha;obtain⟨g,_,hg⟩:=ha;rw[Option.any_eq_true]at hg;obtain⟨fn,hfn,hg⟩:=hg;have:=h fn (Array.mem_toList_iff.2 (Array.mem_of_getElem? hfn));rw[hg]at this;cases this
theorem YW{P:Program}(h:P.funcs.toList.all (λf=>!f.goes)=true)(c:OpenClaim)(hs:c.start=.entering):false=c.goesBy P:=by
 have h1:P.goesFrom c.func=false:=by
  unfold Program.goesFrom;cases P.funcNamed c.func with
  |none=>rfl
  |some f=>exact ag1 h f
 unfold OpenClaim.goesBy Program.goesAt;rw[h1,hs];rfl
theorem goes3:false=Rows.topForksRow.goesBy Tryz.pinned.checked.prog:=YW aDK _ rfl
end Go.Proofs.YteajegmpafjbgaaGreatDoor.topForks
end
