/- For every input of the law TopForks the call returns true; the argument reads behind the call as it read before. Conditions: none beyond the row. -/
import Derived.Test.YteajegmpafjbgaaGreatDoorTie
import Derived.Test.YteajegmpafjbgaaGreatDoorCards
import Derived.SevenTiedAt
import Derived.Test.YteajegmpafjbgaaGreatDoorVbv
import Derived.Test.YteajegmpafjbgaaGreatDoorVbw
set_option linter.all false
set_option maxRecDepth 1000000
set_option maxHeartbeats 80000000
noncomputable section
section
namespace Go.Proofs.YteajegmpafjbgaaGreatDoor.topForks
open Go Go.RowKit
theorem by3:Tryz.prog.funcNamed Rows.topForksRow.func=some 3:=by kernel_rfl
theorem azM:true=Tryz.pinned.checked.prog.looks []:=by kernel_rfl
theorem azP:Tryz.pinned.checked.prog.mainIs=some (true,"53add5794ab47f5123c49dd27045ada33fbb08389059a264d8cbe96dfe3d1818".toList):=by kernel_rfl
theorem axJ:Tryz.pinned.checked.prog.wantsStandIn 5=false:=by kernel_rfl
theorem atE:Tryz.pinned.checked.prog.wantsStandIn 22=false:=by kernel_rfl
theorem wf3:Rows.topForksRow.wfByText (OpenSpec.ofChange Rows.topForksSpec)=true:=by kernel_rfl
theorem proved:Rows.TopForksCardSaid :=
 Claim7.holds_tied_plain_at .later [] [.data,.data,.data,.data,.sentinel,.sentinel,.pinned] true (true,"53add5794ab47f5123c49dd27045ada33fbb08389059a264d8cbe96dfe3d1818") true over (λ_ h=>by cases h) wf3 (λ_ h=>by cases h) topForks_row_tie rfl ⟨rfl,rfl⟩ azP rfl
  (λf fn hf hfn=>by
   obtain rfl:f=3:=Option.some.inj (by3.symm.trans hf)|>.symm;obtain rfl:fn=Tryz.f3:=(Option.some.inj (Tryz.func3.symm.trans hfn)).symm;exact⟨azM,λj t ht=>by
    rw[Tryz.params3]at ht;have hm:t∈[5,22]:=by simpa using Array.mem_of_getElem? ht
    rcases(by simpa using hm:t=5\/t=22)with rfl|rfl
    .exact axJ
    .exact atE⟩)
  goes3
end Go.Proofs.YteajegmpafjbgaaGreatDoor.topForks
end
