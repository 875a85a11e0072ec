/-
  No cell of these rows narrows 'for every input' (looked for: loops, veiled, ifaces, maps, wideKeys, modest, calm, conditions, laid).
  DERIVED. THE GIVEN ROWS OF THIS SEAT. 5 by the template 'for every input the law returns true; each argument reads behind the call as it read before'; 0 by the template 'total and deterministic' (their statements: YtaajooemocdfgaaTotals.lean).
  GIVEN WITH THE SEED: the statements are not yours to turn. If you find one false, say at which input.
  Laid BY PROGRAM, IN A SANDBOX (cutbox-rows.mjs): the forced cells as the released guide's own fill.sh prints them over the translation 1d583f34a2642736… (all of the seat's roots in one cut). By AI agents, Wed Nov 11 2026. No macro, syntax, notation, axiom, sorry.
-/
import Derived.Test.YtaajooemocdfgaaChecked
import GoSem.Claim
import GoSem.ClaimJoined
import GoSem.ClaimMapViews
import Derived.JoinedTies
import Derived.KernelRfl
namespace Go.Proofs.Ytaajooemocdfgaa
/- THE CELL 'sum', in the pinned program and in every row, IS THE sha256 OF THE DUMP (.gsa) THAT YtaajooemocdfgaaProg.lean LOADS. Nothing in Lean hashes anything: it is a label: what it is worth is what the hold of that sum in a sandbox is worth. -/
noncomputable def Try.pinned : Pinned := { name := "ytaajooemocdfgaa", sum := "1d583f34a264273682edb61d91693ce20c52d98fd53aabdb40e3d833cf3ee489", checked := Try.checked }
namespace Rows
def none {H : Type} : Left H := { results := [], args := [] }

/-- 'dawdlerlaw17.TlogTells': WHATEVER THE INPUT: true; the input reads as it did. -/
def tlogTellsSpec : ChangeSpec := { name := "tlogTells", fn := fun _ => fun
  | [d1, d2, d3] => { results := [.lit (.bool true)], args := [d1, d2, d3] }
  | _ => none }
def tlogTellsRow : OpenClaim := { program := "ytaajooemocdfgaa", sum := "1d583f34a264273682edb61d91693ce20c52d98fd53aabdb40e3d833cf3ee489", func := "dawdler/dawdlerlaw17.TlogTells", spec := "tlogTells", unfollowed := true, recurses := true, apart := false }
def TlogTellsSaid : Prop := tlogTellsRow.holds Try.pinned (OpenSpec.ofChange tlogTellsSpec)

/-- ITS FALSE NEIGHBOUR: 'it returns false'. Refute it at one input. -/
def tlogTellsWrong : ChangeSpec := { name := "tlogTells", fn := fun _ => fun
  | [d1, d2, d3] => { results := [.lit (.bool false)], args := [d1, d2, d3] }
  | _ => none }
def TlogTellsWrongFalsely : Prop := tlogTellsRow.holds Try.pinned (OpenSpec.ofChange tlogTellsWrong)

/-- 'dawdlerlaw17.TlogNests': WHATEVER THE INPUT: true; the input reads as it did. -/
def tlogNestsSpec : ChangeSpec := { name := "tlogNests", fn := fun _ => fun
  | [d1, d2, d3, d4] => { results := [.lit (.bool true)], args := [d1, d2, d3, d4] }
  | _ => none }
def tlogNestsRow : OpenClaim := { program := "ytaajooemocdfgaa", sum := "1d583f34a264273682edb61d91693ce20c52d98fd53aabdb40e3d833cf3ee489", func := "dawdler/dawdlerlaw17.TlogNests", spec := "tlogNests", unfollowed := true, recurses := true, apart := false }
def TlogNestsSaid : Prop := tlogNestsRow.holds Try.pinned (OpenSpec.ofChange tlogNestsSpec)

/-- ITS FALSE NEIGHBOUR: 'it returns false'. Refute it at one input. -/
def tlogNestsWrong : ChangeSpec := { name := "tlogNests", fn := fun _ => fun
  | [d1, d2, d3, d4] => { results := [.lit (.bool false)], args := [d1, d2, d3, d4] }
  | _ => none }
def TlogNestsWrongFalsely : Prop := tlogNestsRow.holds Try.pinned (OpenSpec.ofChange tlogNestsWrong)

/-- 'dawdlerlaw17.TlogKeeps': WHATEVER THE INPUT: true; the input reads as it did. -/
def tlogKeepsSpec : ChangeSpec := { name := "tlogKeeps", fn := fun _ => fun
  | [d1, d2, d3, d4, d5] => { results := [.lit (.bool true)], args := [d1, d2, d3, d4, d5] }
  | _ => none }
def tlogKeepsRow : OpenClaim := { program := "ytaajooemocdfgaa", sum := "1d583f34a264273682edb61d91693ce20c52d98fd53aabdb40e3d833cf3ee489", func := "dawdler/dawdlerlaw17.TlogKeeps", spec := "tlogKeeps", unfollowed := true, recurses := true, apart := false }
def TlogKeepsSaid : Prop := tlogKeepsRow.holds Try.pinned (OpenSpec.ofChange tlogKeepsSpec)

/-- ITS FALSE NEIGHBOUR: 'it returns false'. Refute it at one input. -/
def tlogKeepsWrong : ChangeSpec := { name := "tlogKeeps", fn := fun _ => fun
  | [d1, d2, d3, d4, d5] => { results := [.lit (.bool false)], args := [d1, d2, d3, d4, d5] }
  | _ => none }
def TlogKeepsWrongFalsely : Prop := tlogKeepsRow.holds Try.pinned (OpenSpec.ofChange tlogKeepsWrong)

/-- 'dawdlerlaw17.TlogStacks': WHATEVER THE INPUT: true; the input reads as it did. -/
def tlogStacksSpec : ChangeSpec := { name := "tlogStacks", fn := fun _ => fun
  | [d1, d2] => { results := [.lit (.bool true)], args := [d1, d2] }
  | _ => none }
def tlogStacksRow : OpenClaim := { program := "ytaajooemocdfgaa", sum := "1d583f34a264273682edb61d91693ce20c52d98fd53aabdb40e3d833cf3ee489", func := "dawdler/dawdlerlaw17.TlogStacks", spec := "tlogStacks", unfollowed := true, recurses := true, apart := false }
def TlogStacksSaid : Prop := tlogStacksRow.holds Try.pinned (OpenSpec.ofChange tlogStacksSpec)

/-- ITS FALSE NEIGHBOUR: 'it returns false'. Refute it at one input. -/
def tlogStacksWrong : ChangeSpec := { name := "tlogStacks", fn := fun _ => fun
  | [d1, d2] => { results := [.lit (.bool false)], args := [d1, d2] }
  | _ => none }
def TlogStacksWrongFalsely : Prop := tlogStacksRow.holds Try.pinned (OpenSpec.ofChange tlogStacksWrong)

/-- 'dawdlerlaw17.TlogApart': WHATEVER THE INPUT: true; the input reads as it did. -/
def tlogApartSpec : ChangeSpec := { name := "tlogApart", fn := fun _ => fun
  | [d1, d2, d3, d4, d5, d6] => { results := [.lit (.bool true)], args := [d1, d2, d3, d4, d5, d6] }
  | _ => none }
def tlogApartRow : OpenClaim := { program := "ytaajooemocdfgaa", sum := "1d583f34a264273682edb61d91693ce20c52d98fd53aabdb40e3d833cf3ee489", func := "dawdler/dawdlerlaw17.TlogApart", spec := "tlogApart", unfollowed := true, recurses := true, apart := false }
def TlogApartSaid : Prop := tlogApartRow.holds Try.pinned (OpenSpec.ofChange tlogApartSpec)

/-- ITS FALSE NEIGHBOUR: 'it returns false'. Refute it at one input. -/
def tlogApartWrong : ChangeSpec := { name := "tlogApart", fn := fun _ => fun
  | [d1, d2, d3, d4, d5, d6] => { results := [.lit (.bool false)], args := [d1, d2, d3, d4, d5, d6] }
  | _ => none }
def TlogApartWrongFalsely : Prop := tlogApartRow.holds Try.pinned (OpenSpec.ofChange tlogApartWrong)

/- THE SECOND FORM. 'bulk': how many values and letters a reading holds, each counted each time it is reached (what is shared counts as often as it is met; a slice's spare places count too). A statement '..UptoSaid' is the law's where the arguments, and the package variables that the reading takes, are together of bulk at most 1048576: NARROWER than '..Said'. Prove '..Said' where nothing that the law and all that it calls make is longer than what came in: it says more and counts as full. Else prove '..UptoSaid'. A law counts once. -/
mutual
def uptoBulk {H : Type} : DataW H → Nat
  | .lit (.string bytes) => bytes.length + 1
  | .lit _ => 1
  | .nil => 1
  | .ptr d => uptoBulk d + 1
  | .slice elems spare => uptoBulkAll elems + uptoBulkAll spare + 1
  | .agg parts => uptoBulkAll parts + 1
  | .iface _ d => uptoBulk d + 1
  | .map entries => uptoBulkEntries entries + 1
  | .held _ => 1
def uptoBulkAll {H : Type} : List (DataW H) → Nat
  | [] => 0
  | d :: r => uptoBulk d + uptoBulkAll r
def uptoBulkEntries {H : Type} : List (Lit × DataW H) → Nat
  | [] => 0
  | x :: r => uptoBulkEntry x + uptoBulkEntries r
def uptoBulkEntry {H : Type} : Lit × DataW H → Nat
  | (.string bytes, d) => bytes.length + uptoBulk d + 1
  | (_, d) => uptoBulk d + 1
 end
def uptoSmall : (H : Type) → List (DataW H) → Bool := fun _ ds => decide (uptoBulkAll ds ≤ 1048576)
def OpenSpec.upto (s : _root_.Go.ChangeSpec) : _root_.Go.OpenSpec := { _root_.Go.OpenSpec.ofChange s with cond := some uptoSmall }

/-- 'dawdlerlaw17.TlogTells', WHERE WHAT IT READS IS OF BULK AT MOST 1048576: true; the input reads as it did. -/
def tlogTellsUptoRow : OpenClaim := { program := "ytaajooemocdfgaa", sum := "1d583f34a264273682edb61d91693ce20c52d98fd53aabdb40e3d833cf3ee489", func := "dawdler/dawdlerlaw17.TlogTells", spec := "tlogTells", unfollowed := true, recurses := true, apart := false, narrowed := true }
def TlogTellsUptoSaid : Prop := tlogTellsUptoRow.holds Try.pinned (OpenSpec.upto tlogTellsSpec)

/-- 'dawdlerlaw17.TlogNests', WHERE WHAT IT READS IS OF BULK AT MOST 1048576: true; the input reads as it did. -/
def tlogNestsUptoRow : OpenClaim := { program := "ytaajooemocdfgaa", sum := "1d583f34a264273682edb61d91693ce20c52d98fd53aabdb40e3d833cf3ee489", func := "dawdler/dawdlerlaw17.TlogNests", spec := "tlogNests", unfollowed := true, recurses := true, apart := false, narrowed := true }
def TlogNestsUptoSaid : Prop := tlogNestsUptoRow.holds Try.pinned (OpenSpec.upto tlogNestsSpec)

/-- 'dawdlerlaw17.TlogKeeps', WHERE WHAT IT READS IS OF BULK AT MOST 1048576: true; the input reads as it did. -/
def tlogKeepsUptoRow : OpenClaim := { program := "ytaajooemocdfgaa", sum := "1d583f34a264273682edb61d91693ce20c52d98fd53aabdb40e3d833cf3ee489", func := "dawdler/dawdlerlaw17.TlogKeeps", spec := "tlogKeeps", unfollowed := true, recurses := true, apart := false, narrowed := true }
def TlogKeepsUptoSaid : Prop := tlogKeepsUptoRow.holds Try.pinned (OpenSpec.upto tlogKeepsSpec)

/-- 'dawdlerlaw17.TlogStacks', WHERE WHAT IT READS IS OF BULK AT MOST 1048576: true; the input reads as it did. -/
def tlogStacksUptoRow : OpenClaim := { program := "ytaajooemocdfgaa", sum := "1d583f34a264273682edb61d91693ce20c52d98fd53aabdb40e3d833cf3ee489", func := "dawdler/dawdlerlaw17.TlogStacks", spec := "tlogStacks", unfollowed := true, recurses := true, apart := false, narrowed := true }
def TlogStacksUptoSaid : Prop := tlogStacksUptoRow.holds Try.pinned (OpenSpec.upto tlogStacksSpec)

/-- 'dawdlerlaw17.TlogApart', WHERE WHAT IT READS IS OF BULK AT MOST 1048576: true; the input reads as it did. -/
def tlogApartUptoRow : OpenClaim := { program := "ytaajooemocdfgaa", sum := "1d583f34a264273682edb61d91693ce20c52d98fd53aabdb40e3d833cf3ee489", func := "dawdler/dawdlerlaw17.TlogApart", spec := "tlogApart", unfollowed := true, recurses := true, apart := false, narrowed := true }
def TlogApartUptoSaid : Prop := tlogApartUptoRow.holds Try.pinned (OpenSpec.upto tlogApartSpec)

end Rows
end Go.Proofs.Ytaajooemocdfgaa
