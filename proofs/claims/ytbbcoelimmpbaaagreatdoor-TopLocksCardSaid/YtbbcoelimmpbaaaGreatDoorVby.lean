/- For every input of the law TopLocks the call returns true; the argument reads behind the call as it read before. Conditions: none beyond the row. -/
import Derived.Test.YtbbcoelimmpbaaaGreatDoorTie
import Derived.Test.YtbbcoelimmpbaaaGreatDoorCards
import Derived.SevenTiedAt
import Derived.Test.YtbbcoelimmpbaaaGreatDoorVbw
import Derived.Test.YtbbcoelimmpbaaaGreatDoorVbx
set_option linter.all false
set_option linter.unusedVariables false
set_option linter.unusedSimpArgs false
set_option maxRecDepth 1000000
noncomputable section
section
namespace Go.Proofs.YtbbcoelimmpbaaaGreatDoor.topLocks
open Go Go.RowKit
set_option maxRecDepth 100000
theorem by3:Tryz.prog.funcNamed Rows.topLocksRow.func=some 3:=by kernel_rfl
theorem aBw:true=Tryz.pinned.checked.prog.looks []:=by kernel_rfl
theorem aBA:Tryz.pinned.checked.prog.mainIs=some (true,"90c4c05d66984cc3d04631b1d6b980096e21bbed50bde6183155cba000c12932".toList):=by kernel_rfl
theorem azC:Tryz.pinned.checked.prog.wantsStandIn 5=false:=by kernel_rfl
theorem aq0:Tryz.pinned.checked.prog.wantsStandIn 22=false:=by kernel_rfl
theorem wf3:Rows.topLocksRow.wfByText (OpenSpec.ofChange Rows.topLocksSpec)=true:=by kernel_rfl
theorem proved:Rows.TopLocksCardSaid :=
 Claim7.holds_tied_plain_at .later [] [.data,.data,.data,.data,.sentinel,.sentinel,.pinned] true (true,"90c4c05d66984cc3d04631b1d6b980096e21bbed50bde6183155cba000c12932") true over (fun _ h=>by cases h) wf3 (fun _ h=>by cases h) topLocks_row_tie rfl ⟨rfl,rfl⟩ aBA rfl
  (fun f fn hf hfn=>by
   obtain rfl:f=3:=Option.some.inj (by3.symm.trans hf) |>.symm
   obtain rfl:fn=Tryz.f3:=(Option.some.inj (Tryz.func3.symm.trans hfn)).symm
   exact ⟨aBw,fun j t ht=>by
    rw [Tryz.params3] at ht
    have hm:t∈[5,22]:=by simpa using Array.mem_of_getElem? ht
    rcases (by simpa using hm:t=5∨t=22) with rfl|rfl
    ·exact azC
    ·exact aq0⟩)
  goes3
end Go.Proofs.YtbbcoelimmpbaaaGreatDoor.topLocks
end
