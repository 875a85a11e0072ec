/-
  No cell of these rows narrows 'for every input' (looked for: loops, veiled, ifaces, maps, wideKeys, modest, calm, conditions, laid).
  DERIVED. THE GIVEN ROWS OF THIS SEAT. 4 by the template 'for every input the law returns true; each argument reads behind the call as it read before'; 0 by the template 'total and deterministic' (their statements: YteogmehbjopedaaTotals.lean).
  GIVEN WITH THE SEED: the statements are not yours to turn. If you find one false, say at which input.
  Laid BY PROGRAM, IN A SANDBOX (cutbox-rows.mjs): the forced cells as the released guide's own fill.sh prints them over the translation 71567c64aa85f06e… (all of the seat's roots in one cut). By AI agents, Wed Nov 11 2026. No macro, syntax, notation, axiom, sorry.
-/
import Derived.Test.YteogmehbjopedaaChecked
import GoSem.Claim
import GoSem.ClaimJoined
import GoSem.ClaimMapViews
import Derived.JoinedTies
import Derived.KernelRfl
namespace Go.Proofs.Yteogmehbjopedaa
/- THE CELL 'sum', in the pinned program and in every row, IS THE sha256 OF THE DUMP (.gsa) THAT YteogmehbjopedaaProg.lean LOADS. Nothing in Lean hashes anything: it is a label: what it is worth is what the hold of that sum in a sandbox is worth. -/
noncomputable def Try.pinned : Pinned := { name := "yteogmehbjopedaa", sum := "71567c64aa85f06e05e4de1582344ec0789a026faa70cc4dec7e3c52f6bb79b1", checked := Try.checked }
namespace Rows
def none {H : Type} : Left H := { results := [], args := [] }

/-- 'dawdlerlaw19.WaitTells': WHATEVER THE INPUT: true; the input reads as it did. -/
def waitTellsSpec : ChangeSpec := { name := "waitTells", fn := fun _ => fun
  | [d1, d2, d3] => { results := [.lit (.bool true)], args := [d1, d2, d3] }
  | _ => none }
def waitTellsRow : OpenClaim := { program := "yteogmehbjopedaa", sum := "71567c64aa85f06e05e4de1582344ec0789a026faa70cc4dec7e3c52f6bb79b1", func := "dawdler/dawdlerlaw19.WaitTells", spec := "waitTells", unfollowed := true, recurses := true, apart := false }
def WaitTellsSaid : Prop := waitTellsRow.holds Try.pinned (OpenSpec.ofChange waitTellsSpec)

/-- ITS FALSE NEIGHBOUR: 'it returns false'. Refute it at one input. -/
def waitTellsWrong : ChangeSpec := { name := "waitTells", fn := fun _ => fun
  | [d1, d2, d3] => { results := [.lit (.bool false)], args := [d1, d2, d3] }
  | _ => none }
def WaitTellsWrongFalsely : Prop := waitTellsRow.holds Try.pinned (OpenSpec.ofChange waitTellsWrong)

/-- 'dawdlerlaw19.WaitWakes': WHATEVER THE INPUT: true; the input reads as it did. -/
def waitWakesSpec : ChangeSpec := { name := "waitWakes", fn := fun _ => fun
  | [d1, d2, d3] => { results := [.lit (.bool true)], args := [d1, d2, d3] }
  | _ => none }
def waitWakesRow : OpenClaim := { program := "yteogmehbjopedaa", sum := "71567c64aa85f06e05e4de1582344ec0789a026faa70cc4dec7e3c52f6bb79b1", func := "dawdler/dawdlerlaw19.WaitWakes", spec := "waitWakes", unfollowed := true, recurses := true, apart := false }
def WaitWakesSaid : Prop := waitWakesRow.holds Try.pinned (OpenSpec.ofChange waitWakesSpec)

/-- ITS FALSE NEIGHBOUR: 'it returns false'. Refute it at one input. -/
def waitWakesWrong : ChangeSpec := { name := "waitWakes", fn := fun _ => fun
  | [d1, d2, d3] => { results := [.lit (.bool false)], args := [d1, d2, d3] }
  | _ => none }
def WaitWakesWrongFalsely : Prop := waitWakesRow.holds Try.pinned (OpenSpec.ofChange waitWakesWrong)

/-- 'dawdlerlaw19.WaitParks': WHATEVER THE INPUT: true; the input reads as it did. -/
def waitParksSpec : ChangeSpec := { name := "waitParks", fn := fun _ => fun
  | [d1, d2, d3, d4] => { results := [.lit (.bool true)], args := [d1, d2, d3, d4] }
  | _ => none }
def waitParksRow : OpenClaim := { program := "yteogmehbjopedaa", sum := "71567c64aa85f06e05e4de1582344ec0789a026faa70cc4dec7e3c52f6bb79b1", func := "dawdler/dawdlerlaw19.WaitParks", spec := "waitParks", unfollowed := true, recurses := true, apart := false }
def WaitParksSaid : Prop := waitParksRow.holds Try.pinned (OpenSpec.ofChange waitParksSpec)

/-- ITS FALSE NEIGHBOUR: 'it returns false'. Refute it at one input. -/
def waitParksWrong : ChangeSpec := { name := "waitParks", fn := fun _ => fun
  | [d1, d2, d3, d4] => { results := [.lit (.bool false)], args := [d1, d2, d3, d4] }
  | _ => none }
def WaitParksWrongFalsely : Prop := waitParksRow.holds Try.pinned (OpenSpec.ofChange waitParksWrong)

/-- 'dawdlerlaw19.WaitUnion': WHATEVER THE INPUT: true; the input reads as it did. -/
def waitUnionSpec : ChangeSpec := { name := "waitUnion", fn := fun _ => fun
  | [d1, d2, d3] => { results := [.lit (.bool true)], args := [d1, d2, d3] }
  | _ => none }
def waitUnionRow : OpenClaim := { program := "yteogmehbjopedaa", sum := "71567c64aa85f06e05e4de1582344ec0789a026faa70cc4dec7e3c52f6bb79b1", func := "dawdler/dawdlerlaw19.WaitUnion", spec := "waitUnion", unfollowed := true, recurses := true, apart := false }
def WaitUnionSaid : Prop := waitUnionRow.holds Try.pinned (OpenSpec.ofChange waitUnionSpec)

/-- ITS FALSE NEIGHBOUR: 'it returns false'. Refute it at one input. -/
def waitUnionWrong : ChangeSpec := { name := "waitUnion", fn := fun _ => fun
  | [d1, d2, d3] => { results := [.lit (.bool false)], args := [d1, d2, d3] }
  | _ => none }
def WaitUnionWrongFalsely : Prop := waitUnionRow.holds Try.pinned (OpenSpec.ofChange waitUnionWrong)

/- THE SECOND FORM. 'bulk': how many values and letters a reading holds, each counted each time it is reached (what is shared counts as often as it is met; a slice's spare places count too). A statement '..UptoSaid' is the law's where the arguments, and the package variables that the reading takes, are together of bulk at most 1048576: NARROWER than '..Said'. Prove '..Said' where nothing that the law and all that it calls make is longer than what came in: it says more and counts as full. Else prove '..UptoSaid'. A law counts once. -/
mutual
def uptoBulk {H : Type} : DataW H → Nat
  | .lit (.string bytes) => bytes.length + 1
  | .lit _ => 1
  | .nil => 1
  | .ptr d => uptoBulk d + 1
  | .slice elems spare => uptoBulkAll elems + uptoBulkAll spare + 1
  | .agg parts => uptoBulkAll parts + 1
  | .iface _ d => uptoBulk d + 1
  | .map entries => uptoBulkEntries entries + 1
  | .held _ => 1
def uptoBulkAll {H : Type} : List (DataW H) → Nat
  | [] => 0
  | d :: r => uptoBulk d + uptoBulkAll r
def uptoBulkEntries {H : Type} : List (Lit × DataW H) → Nat
  | [] => 0
  | x :: r => uptoBulkEntry x + uptoBulkEntries r
def uptoBulkEntry {H : Type} : Lit × DataW H → Nat
  | (.string bytes, d) => bytes.length + uptoBulk d + 1
  | (_, d) => uptoBulk d + 1
 end
def uptoSmall : (H : Type) → List (DataW H) → Bool := fun _ ds => decide (uptoBulkAll ds ≤ 1048576)
def OpenSpec.upto (s : _root_.Go.ChangeSpec) : _root_.Go.OpenSpec := { _root_.Go.OpenSpec.ofChange s with cond := some uptoSmall }

/-- 'dawdlerlaw19.WaitTells', WHERE WHAT IT READS IS OF BULK AT MOST 1048576: true; the input reads as it did. -/
def waitTellsUptoRow : OpenClaim := { program := "yteogmehbjopedaa", sum := "71567c64aa85f06e05e4de1582344ec0789a026faa70cc4dec7e3c52f6bb79b1", func := "dawdler/dawdlerlaw19.WaitTells", spec := "waitTells", unfollowed := true, recurses := true, apart := false, narrowed := true }
def WaitTellsUptoSaid : Prop := waitTellsUptoRow.holds Try.pinned (OpenSpec.upto waitTellsSpec)

/-- 'dawdlerlaw19.WaitWakes', WHERE WHAT IT READS IS OF BULK AT MOST 1048576: true; the input reads as it did. -/
def waitWakesUptoRow : OpenClaim := { program := "yteogmehbjopedaa", sum := "71567c64aa85f06e05e4de1582344ec0789a026faa70cc4dec7e3c52f6bb79b1", func := "dawdler/dawdlerlaw19.WaitWakes", spec := "waitWakes", unfollowed := true, recurses := true, apart := false, narrowed := true }
def WaitWakesUptoSaid : Prop := waitWakesUptoRow.holds Try.pinned (OpenSpec.upto waitWakesSpec)

/-- 'dawdlerlaw19.WaitParks', WHERE WHAT IT READS IS OF BULK AT MOST 1048576: true; the input reads as it did. -/
def waitParksUptoRow : OpenClaim := { program := "yteogmehbjopedaa", sum := "71567c64aa85f06e05e4de1582344ec0789a026faa70cc4dec7e3c52f6bb79b1", func := "dawdler/dawdlerlaw19.WaitParks", spec := "waitParks", unfollowed := true, recurses := true, apart := false, narrowed := true }
def WaitParksUptoSaid : Prop := waitParksUptoRow.holds Try.pinned (OpenSpec.upto waitParksSpec)

/-- 'dawdlerlaw19.WaitUnion', WHERE WHAT IT READS IS OF BULK AT MOST 1048576: true; the input reads as it did. -/
def waitUnionUptoRow : OpenClaim := { program := "yteogmehbjopedaa", sum := "71567c64aa85f06e05e4de1582344ec0789a026faa70cc4dec7e3c52f6bb79b1", func := "dawdler/dawdlerlaw19.WaitUnion", spec := "waitUnion", unfollowed := true, recurses := true, apart := false, narrowed := true }
def WaitUnionUptoSaid : Prop := waitUnionUptoRow.holds Try.pinned (OpenSpec.upto waitUnionSpec)

end Rows
end Go.Proofs.Yteogmehbjopedaa
