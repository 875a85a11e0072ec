/- For every input of the law TopLoops the call returns true; the argument reads behind the call as it read before. Conditions: none beyond the row.  -/
import Derived.Test.YtedmegjkcgidlaaGreatDoorTie
import Derived.Test.YtedmegjkcgidlaaGreatDoorCards
import Derived.SevenTiedAt
import Derived.Test.YtedmegjkcgidlaaGreatDoorVbx
import Derived.Test.YtedmegjkcgidlaaGreatDoorVby
set_option linter.all false
set_option linter.unusedVariables false
set_option linter.unusedSimpArgs false
noncomputable section
namespace Go.Proofs.YtedmegjkcgidlaaGreatDoor.topLoops
open Go Go.RowKit
set_option maxRecDepth 100000
theorem by3 : Tryz.prog.funcNamed Rows.topLoopsRow.func = some 3 := by kernel_rfl
theorem look3 : true = Tryz.pinned.checked.prog.looks [] := by kernel_rfl
theorem main3 : Tryz.pinned.checked.prog.mainIs = some (true, "93d5902ee5748136a39ef3ee58c245de75ac7a399a6019e1a4cb93c0e1309c34".toList) := by kernel_rfl
theorem wants5 : Tryz.pinned.checked.prog.wantsStandIn 5 = false := by kernel_rfl
theorem wf3 : Rows.topLoopsRow.wfByText (OpenSpec.ofChange Rows.topLoopsSpec) = true := by kernel_rfl
theorem proved : Rows.TopLoopsCardSaid :=
  Claim7.holds_tied_plain_at .later [] [.data, .data, .data, .data, .sentinel, .sentinel, .pinned] true (true, "93d5902ee5748136a39ef3ee58c245de75ac7a399a6019e1a4cb93c0e1309c34") true over (fun _ h => by cases h) wf3 (fun _ h => by cases h) topLoops_row_tie rfl ⟨rfl, rfl⟩ main3 rfl
    (fun f fn hf hfn => by
      obtain rfl : f = 3 := Option.some.inj (by3.symm.trans hf) |>.symm
      obtain rfl : fn = Tryz.f3 := (Option.some.inj (Tryz.func3.symm.trans hfn)).symm
      exact ⟨look3, fun j t ht => by
        rw [Tryz.params3] at ht
        have hm : t ∈ [5] := by simpa using Array.mem_of_getElem? ht
        obtain rfl : t = 5 := by simpa using hm
        exact wants5⟩)
    goes3
end Go.Proofs.YtedmegjkcgidlaaGreatDoor.topLoops
end
