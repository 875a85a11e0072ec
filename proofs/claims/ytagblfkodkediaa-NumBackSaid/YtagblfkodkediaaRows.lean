/-
  No cell of these rows narrows 'for every input' (looked for: loops, veiled, ifaces, maps, wideKeys, modest, calm, conditions, laid).
  DERIVED. THE GIVEN ROWS OF THIS SEAT. 5 by the template 'for every input the law returns true; each argument reads behind the call as it read before'; 0 by the template 'total and deterministic' (their statements: YtagblfkodkediaaTotals.lean).
  GIVEN WITH THE SEED: the statements are not yours to turn. If you find one false, say at which input.
  Laid BY PROGRAM, IN A SANDBOX (cutbox-rows.mjs): the forced cells as the released guide's own fill.sh prints them over the translation ae2351ff83ba8dec… (all of the seat's roots in one cut). By AI agents, Wed Nov 11 2026. No macro, syntax, notation, axiom, sorry.
-/
import Derived.Test.YtagblfkodkediaaChecked
import GoSem.Claim
import GoSem.ClaimJoined
import GoSem.ClaimMapViews
import Derived.JoinedTies
import Derived.KernelRfl
namespace Go.Proofs.Ytagblfkodkediaa
/- THE CELL 'sum', in the pinned program and in every row, IS THE sha256 OF THE DUMP (.gsa) THAT YtagblfkodkediaaProg.lean LOADS. Nothing in Lean hashes anything: it is a label: what it is worth is what the hold of that sum in a sandbox is worth. -/
noncomputable def Try.pinned : Pinned := { name := "ytagblfkodkediaa", sum := "ae2351ff83ba8decccdd3cf2d64ada3b986298db5c88ef1f73f358f8f19e0a49", checked := Try.checked }
namespace Rows
def none {H : Type} : Left H := { results := [], args := [] }

/-- 'dawdlerlaw01.NumTells': WHATEVER THE INPUT: true; the input reads as it did. -/
def numTellsSpec : ChangeSpec := { name := "numTells", fn := fun _ => fun
  | [d1, d2, d3] => { results := [.lit (.bool true)], args := [d1, d2, d3] }
  | _ => none }
def numTellsRow : OpenClaim := { program := "ytagblfkodkediaa", sum := "ae2351ff83ba8decccdd3cf2d64ada3b986298db5c88ef1f73f358f8f19e0a49", func := "dawdler/dawdlerlaw01.NumTells", spec := "numTells", apart := false }
def NumTellsSaid : Prop := numTellsRow.holds Try.pinned (OpenSpec.ofChange numTellsSpec)

/-- ITS FALSE NEIGHBOUR: 'it returns false'. Refute it at one input. -/
def numTellsWrong : ChangeSpec := { name := "numTells", fn := fun _ => fun
  | [d1, d2, d3] => { results := [.lit (.bool false)], args := [d1, d2, d3] }
  | _ => none }
def NumTellsWrongFalsely : Prop := numTellsRow.holds Try.pinned (OpenSpec.ofChange numTellsWrong)

/-- 'dawdlerlaw01.NumBack': WHATEVER THE INPUT: true; the input reads as it did. -/
def numBackSpec : ChangeSpec := { name := "numBack", fn := fun _ => fun
  | [d1, d2] => { results := [.lit (.bool true)], args := [d1, d2] }
  | _ => none }
def numBackRow : OpenClaim := { program := "ytagblfkodkediaa", sum := "ae2351ff83ba8decccdd3cf2d64ada3b986298db5c88ef1f73f358f8f19e0a49", func := "dawdler/dawdlerlaw01.NumBack", spec := "numBack", apart := false }
def NumBackSaid : Prop := numBackRow.holds Try.pinned (OpenSpec.ofChange numBackSpec)

/-- ITS FALSE NEIGHBOUR: 'it returns false'. Refute it at one input. -/
def numBackWrong : ChangeSpec := { name := "numBack", fn := fun _ => fun
  | [d1, d2] => { results := [.lit (.bool false)], args := [d1, d2] }
  | _ => none }
def NumBackWrongFalsely : Prop := numBackRow.holds Try.pinned (OpenSpec.ofChange numBackWrong)

/-- 'dawdlerlaw01.NumQuotients': WHATEVER THE INPUT: true; the input reads as it did. -/
def numQuotientsSpec : ChangeSpec := { name := "numQuotients", fn := fun _ => fun
  | [d1, d2] => { results := [.lit (.bool true)], args := [d1, d2] }
  | _ => none }
def numQuotientsRow : OpenClaim := { program := "ytagblfkodkediaa", sum := "ae2351ff83ba8decccdd3cf2d64ada3b986298db5c88ef1f73f358f8f19e0a49", func := "dawdler/dawdlerlaw01.NumQuotients", spec := "numQuotients", apart := false }
def NumQuotientsSaid : Prop := numQuotientsRow.holds Try.pinned (OpenSpec.ofChange numQuotientsSpec)

/-- ITS FALSE NEIGHBOUR: 'it returns false'. Refute it at one input. -/
def numQuotientsWrong : ChangeSpec := { name := "numQuotients", fn := fun _ => fun
  | [d1, d2] => { results := [.lit (.bool false)], args := [d1, d2] }
  | _ => none }
def NumQuotientsWrongFalsely : Prop := numQuotientsRow.holds Try.pinned (OpenSpec.ofChange numQuotientsWrong)

/-- 'dawdlerlaw01.NumRing': WHATEVER THE INPUT: true; the input reads as it did. -/
def numRingSpec : ChangeSpec := { name := "numRing", fn := fun _ => fun
  | [d1, d2, d3] => { results := [.lit (.bool true)], args := [d1, d2, d3] }
  | _ => none }
def numRingRow : OpenClaim := { program := "ytagblfkodkediaa", sum := "ae2351ff83ba8decccdd3cf2d64ada3b986298db5c88ef1f73f358f8f19e0a49", func := "dawdler/dawdlerlaw01.NumRing", spec := "numRing", apart := false }
def NumRingSaid : Prop := numRingRow.holds Try.pinned (OpenSpec.ofChange numRingSpec)

/-- ITS FALSE NEIGHBOUR: 'it returns false'. Refute it at one input. -/
def numRingWrong : ChangeSpec := { name := "numRing", fn := fun _ => fun
  | [d1, d2, d3] => { results := [.lit (.bool false)], args := [d1, d2, d3] }
  | _ => none }
def NumRingWrongFalsely : Prop := numRingRow.holds Try.pinned (OpenSpec.ofChange numRingWrong)

/-- 'dawdlerlaw01.NumSmall': WHATEVER THE INPUT: true; the input reads as it did. -/
def numSmallSpec : ChangeSpec := { name := "numSmall", fn := fun _ => fun
  | [d1, d2] => { results := [.lit (.bool true)], args := [d1, d2] }
  | _ => none }
def numSmallRow : OpenClaim := { program := "ytagblfkodkediaa", sum := "ae2351ff83ba8decccdd3cf2d64ada3b986298db5c88ef1f73f358f8f19e0a49", func := "dawdler/dawdlerlaw01.NumSmall", spec := "numSmall", apart := false }
def NumSmallSaid : Prop := numSmallRow.holds Try.pinned (OpenSpec.ofChange numSmallSpec)

/-- ITS FALSE NEIGHBOUR: 'it returns false'. Refute it at one input. -/
def numSmallWrong : ChangeSpec := { name := "numSmall", fn := fun _ => fun
  | [d1, d2] => { results := [.lit (.bool false)], args := [d1, d2] }
  | _ => none }
def NumSmallWrongFalsely : Prop := numSmallRow.holds Try.pinned (OpenSpec.ofChange numSmallWrong)

/- THE SECOND FORM. 'bulk': how many values and letters a reading holds, each counted each time it is reached (what is shared counts as often as it is met; a slice's spare places count too). A statement '..UptoSaid' is the law's where the arguments, and the package variables that the reading takes, are together of bulk at most 1048576: NARROWER than '..Said'. Prove '..Said' where nothing that the law and all that it calls make is longer than what came in: it says more and counts as full. Else prove '..UptoSaid'. A law counts once. -/
mutual
def uptoBulk {H : Type} : DataW H → Nat
  | .lit (.string bytes) => bytes.length + 1
  | .lit _ => 1
  | .nil => 1
  | .ptr d => uptoBulk d + 1
  | .slice elems spare => uptoBulkAll elems + uptoBulkAll spare + 1
  | .agg parts => uptoBulkAll parts + 1
  | .iface _ d => uptoBulk d + 1
  | .map entries => uptoBulkEntries entries + 1
  | .held _ => 1
def uptoBulkAll {H : Type} : List (DataW H) → Nat
  | [] => 0
  | d :: r => uptoBulk d + uptoBulkAll r
def uptoBulkEntries {H : Type} : List (Lit × DataW H) → Nat
  | [] => 0
  | x :: r => uptoBulkEntry x + uptoBulkEntries r
def uptoBulkEntry {H : Type} : Lit × DataW H → Nat
  | (.string bytes, d) => bytes.length + uptoBulk d + 1
  | (_, d) => uptoBulk d + 1
 end
def uptoSmall : (H : Type) → List (DataW H) → Bool := fun _ ds => decide (uptoBulkAll ds ≤ 1048576)
def OpenSpec.upto (s : _root_.Go.ChangeSpec) : _root_.Go.OpenSpec := { _root_.Go.OpenSpec.ofChange s with cond := some uptoSmall }

/-- 'dawdlerlaw01.NumTells', WHERE WHAT IT READS IS OF BULK AT MOST 1048576: true; the input reads as it did. -/
def numTellsUptoRow : OpenClaim := { program := "ytagblfkodkediaa", sum := "ae2351ff83ba8decccdd3cf2d64ada3b986298db5c88ef1f73f358f8f19e0a49", func := "dawdler/dawdlerlaw01.NumTells", spec := "numTells", apart := false, narrowed := true }
def NumTellsUptoSaid : Prop := numTellsUptoRow.holds Try.pinned (OpenSpec.upto numTellsSpec)

/-- 'dawdlerlaw01.NumBack', WHERE WHAT IT READS IS OF BULK AT MOST 1048576: true; the input reads as it did. -/
def numBackUptoRow : OpenClaim := { program := "ytagblfkodkediaa", sum := "ae2351ff83ba8decccdd3cf2d64ada3b986298db5c88ef1f73f358f8f19e0a49", func := "dawdler/dawdlerlaw01.NumBack", spec := "numBack", apart := false, narrowed := true }
def NumBackUptoSaid : Prop := numBackUptoRow.holds Try.pinned (OpenSpec.upto numBackSpec)

/-- 'dawdlerlaw01.NumQuotients', WHERE WHAT IT READS IS OF BULK AT MOST 1048576: true; the input reads as it did. -/
def numQuotientsUptoRow : OpenClaim := { program := "ytagblfkodkediaa", sum := "ae2351ff83ba8decccdd3cf2d64ada3b986298db5c88ef1f73f358f8f19e0a49", func := "dawdler/dawdlerlaw01.NumQuotients", spec := "numQuotients", apart := false, narrowed := true }
def NumQuotientsUptoSaid : Prop := numQuotientsUptoRow.holds Try.pinned (OpenSpec.upto numQuotientsSpec)

/-- 'dawdlerlaw01.NumRing', WHERE WHAT IT READS IS OF BULK AT MOST 1048576: true; the input reads as it did. -/
def numRingUptoRow : OpenClaim := { program := "ytagblfkodkediaa", sum := "ae2351ff83ba8decccdd3cf2d64ada3b986298db5c88ef1f73f358f8f19e0a49", func := "dawdler/dawdlerlaw01.NumRing", spec := "numRing", apart := false, narrowed := true }
def NumRingUptoSaid : Prop := numRingUptoRow.holds Try.pinned (OpenSpec.upto numRingSpec)

/-- 'dawdlerlaw01.NumSmall', WHERE WHAT IT READS IS OF BULK AT MOST 1048576: true; the input reads as it did. -/
def numSmallUptoRow : OpenClaim := { program := "ytagblfkodkediaa", sum := "ae2351ff83ba8decccdd3cf2d64ada3b986298db5c88ef1f73f358f8f19e0a49", func := "dawdler/dawdlerlaw01.NumSmall", spec := "numSmall", apart := false, narrowed := true }
def NumSmallUptoSaid : Prop := numSmallUptoRow.holds Try.pinned (OpenSpec.upto numSmallSpec)

end Rows
end Go.Proofs.Ytagblfkodkediaa
