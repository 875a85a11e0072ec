/-
  No cell of these rows narrows 'for every input' (looked for: loops, veiled, ifaces, maps, wideKeys, modest, calm, conditions, laid).
  DERIVED. THE GIVEN ROWS OF THIS SEAT. 5 by the template 'for every input the law returns true; each argument reads behind the call as it read before'; 0 by the template 'total and deterministic' (their statements: YtajhchfjoeblgaaTotals.lean).
  GIVEN WITH THE SEED: the statements are not yours to turn. If you find one false, say at which input.
  Laid BY PROGRAM, IN A SANDBOX (cutbox-rows.mjs): the forced cells as the released guide's own fill.sh prints them over the translation 8a2306c5305f3565… (all of the seat's roots in one cut). By AI agents, Wed Nov 11 2026. No macro, syntax, notation, axiom, sorry.
-/
import Derived.Test.YtajhchfjoeblgaaChecked
import GoSem.Claim
import GoSem.ClaimJoined
import GoSem.ClaimMapViews
import Derived.JoinedTies
import Derived.KernelRfl
namespace Go.Proofs.Ytajhchfjoeblgaa
/- THE CELL 'sum', in the pinned program and in every row, IS THE sha256 OF THE DUMP (.gsa) THAT YtajhchfjoeblgaaProg.lean LOADS. Nothing in Lean hashes anything: it is a label: what it is worth is what the hold of that sum in a sandbox is worth. -/
noncomputable def Try.pinned : Pinned := { name := "ytajhchfjoeblgaa", sum := "8a2306c5305f356502566f99f845afe32bfe4138a178130daf116be4fd689eb5", checked := Try.checked }
namespace Rows
def none {H : Type} : Left H := { results := [], args := [] }

/-- 'dawdlerlaw14.GcTells': WHATEVER THE INPUT: true; the input reads as it did. -/
def gcTellsSpec : ChangeSpec := { name := "gcTells", fn := fun _ => fun
  | [d1, d2] => { results := [.lit (.bool true)], args := [d1, d2] }
  | _ => none }
def gcTellsRow : OpenClaim := { program := "ytajhchfjoeblgaa", sum := "8a2306c5305f356502566f99f845afe32bfe4138a178130daf116be4fd689eb5", func := "dawdler/dawdlerlaw14.GcTells", spec := "gcTells", unfollowed := true, recurses := true, apart := false }
def GcTellsSaid : Prop := gcTellsRow.holds Try.pinned (OpenSpec.ofChange gcTellsSpec)

/-- ITS FALSE NEIGHBOUR: 'it returns false'. Refute it at one input. -/
def gcTellsWrong : ChangeSpec := { name := "gcTells", fn := fun _ => fun
  | [d1, d2] => { results := [.lit (.bool false)], args := [d1, d2] }
  | _ => none }
def GcTellsWrongFalsely : Prop := gcTellsRow.holds Try.pinned (OpenSpec.ofChange gcTellsWrong)

/-- 'dawdlerlaw14.GcSame': WHATEVER THE INPUT: true; the input reads as it did. -/
def gcSameSpec : ChangeSpec := { name := "gcSame", fn := fun _ => fun
  | [d1, d2, d3] => { results := [.lit (.bool true)], args := [d1, d2, d3] }
  | _ => none }
def gcSameRow : OpenClaim := { program := "ytajhchfjoeblgaa", sum := "8a2306c5305f356502566f99f845afe32bfe4138a178130daf116be4fd689eb5", func := "dawdler/dawdlerlaw14.GcSame", spec := "gcSame", unfollowed := true, recurses := true, apart := false }
def GcSameSaid : Prop := gcSameRow.holds Try.pinned (OpenSpec.ofChange gcSameSpec)

/-- ITS FALSE NEIGHBOUR: 'it returns false'. Refute it at one input. -/
def gcSameWrong : ChangeSpec := { name := "gcSame", fn := fun _ => fun
  | [d1, d2, d3] => { results := [.lit (.bool false)], args := [d1, d2, d3] }
  | _ => none }
def GcSameWrongFalsely : Prop := gcSameRow.holds Try.pinned (OpenSpec.ofChange gcSameWrong)

/-- 'dawdlerlaw14.GcLeast': WHATEVER THE INPUT: true; the input reads as it did. -/
def gcLeastSpec : ChangeSpec := { name := "gcLeast", fn := fun _ => fun
  | [d1, d2] => { results := [.lit (.bool true)], args := [d1, d2] }
  | _ => none }
def gcLeastRow : OpenClaim := { program := "ytajhchfjoeblgaa", sum := "8a2306c5305f356502566f99f845afe32bfe4138a178130daf116be4fd689eb5", func := "dawdler/dawdlerlaw14.GcLeast", spec := "gcLeast", unfollowed := true, recurses := true, apart := false }
def GcLeastSaid : Prop := gcLeastRow.holds Try.pinned (OpenSpec.ofChange gcLeastSpec)

/-- ITS FALSE NEIGHBOUR: 'it returns false'. Refute it at one input. -/
def gcLeastWrong : ChangeSpec := { name := "gcLeast", fn := fun _ => fun
  | [d1, d2] => { results := [.lit (.bool false)], args := [d1, d2] }
  | _ => none }
def GcLeastWrongFalsely : Prop := gcLeastRow.holds Try.pinned (OpenSpec.ofChange gcLeastWrong)

/-- 'dawdlerlaw14.GcMore': WHATEVER THE INPUT: true; the input reads as it did. -/
def gcMoreSpec : ChangeSpec := { name := "gcMore", fn := fun _ => fun
  | [d1, d2, d3] => { results := [.lit (.bool true)], args := [d1, d2, d3] }
  | _ => none }
def gcMoreRow : OpenClaim := { program := "ytajhchfjoeblgaa", sum := "8a2306c5305f356502566f99f845afe32bfe4138a178130daf116be4fd689eb5", func := "dawdler/dawdlerlaw14.GcMore", spec := "gcMore", unfollowed := true, recurses := true, apart := false }
def GcMoreSaid : Prop := gcMoreRow.holds Try.pinned (OpenSpec.ofChange gcMoreSpec)

/-- ITS FALSE NEIGHBOUR: 'it returns false'. Refute it at one input. -/
def gcMoreWrong : ChangeSpec := { name := "gcMore", fn := fun _ => fun
  | [d1, d2, d3] => { results := [.lit (.bool false)], args := [d1, d2, d3] }
  | _ => none }
def GcMoreWrongFalsely : Prop := gcMoreRow.holds Try.pinned (OpenSpec.ofChange gcMoreWrong)

/-- 'dawdlerlaw14.GcPlaces': WHATEVER THE INPUT: true; the input reads as it did. -/
def gcPlacesSpec : ChangeSpec := { name := "gcPlaces", fn := fun _ => fun
  | [d1, d2] => { results := [.lit (.bool true)], args := [d1, d2] }
  | _ => none }
def gcPlacesRow : OpenClaim := { program := "ytajhchfjoeblgaa", sum := "8a2306c5305f356502566f99f845afe32bfe4138a178130daf116be4fd689eb5", func := "dawdler/dawdlerlaw14.GcPlaces", spec := "gcPlaces", unfollowed := true, recurses := true, apart := false }
def GcPlacesSaid : Prop := gcPlacesRow.holds Try.pinned (OpenSpec.ofChange gcPlacesSpec)

/-- ITS FALSE NEIGHBOUR: 'it returns false'. Refute it at one input. -/
def gcPlacesWrong : ChangeSpec := { name := "gcPlaces", fn := fun _ => fun
  | [d1, d2] => { results := [.lit (.bool false)], args := [d1, d2] }
  | _ => none }
def GcPlacesWrongFalsely : Prop := gcPlacesRow.holds Try.pinned (OpenSpec.ofChange gcPlacesWrong)

/- THE SECOND FORM. 'bulk': how many values and letters a reading holds, each counted each time it is reached (what is shared counts as often as it is met; a slice's spare places count too). A statement '..UptoSaid' is the law's where the arguments, and the package variables that the reading takes, are together of bulk at most 1048576: NARROWER than '..Said'. Prove '..Said' where nothing that the law and all that it calls make is longer than what came in: it says more and counts as full. Else prove '..UptoSaid'. A law counts once. -/
mutual
def uptoBulk {H : Type} : DataW H → Nat
  | .lit (.string bytes) => bytes.length + 1
  | .lit _ => 1
  | .nil => 1
  | .ptr d => uptoBulk d + 1
  | .slice elems spare => uptoBulkAll elems + uptoBulkAll spare + 1
  | .agg parts => uptoBulkAll parts + 1
  | .iface _ d => uptoBulk d + 1
  | .map entries => uptoBulkEntries entries + 1
  | .held _ => 1
def uptoBulkAll {H : Type} : List (DataW H) → Nat
  | [] => 0
  | d :: r => uptoBulk d + uptoBulkAll r
def uptoBulkEntries {H : Type} : List (Lit × DataW H) → Nat
  | [] => 0
  | x :: r => uptoBulkEntry x + uptoBulkEntries r
def uptoBulkEntry {H : Type} : Lit × DataW H → Nat
  | (.string bytes, d) => bytes.length + uptoBulk d + 1
  | (_, d) => uptoBulk d + 1
 end
def uptoSmall : (H : Type) → List (DataW H) → Bool := fun _ ds => decide (uptoBulkAll ds ≤ 1048576)
def OpenSpec.upto (s : _root_.Go.ChangeSpec) : _root_.Go.OpenSpec := { _root_.Go.OpenSpec.ofChange s with cond := some uptoSmall }

/-- 'dawdlerlaw14.GcTells', WHERE WHAT IT READS IS OF BULK AT MOST 1048576: true; the input reads as it did. -/
def gcTellsUptoRow : OpenClaim := { program := "ytajhchfjoeblgaa", sum := "8a2306c5305f356502566f99f845afe32bfe4138a178130daf116be4fd689eb5", func := "dawdler/dawdlerlaw14.GcTells", spec := "gcTells", unfollowed := true, recurses := true, apart := false, narrowed := true }
def GcTellsUptoSaid : Prop := gcTellsUptoRow.holds Try.pinned (OpenSpec.upto gcTellsSpec)

/-- 'dawdlerlaw14.GcSame', WHERE WHAT IT READS IS OF BULK AT MOST 1048576: true; the input reads as it did. -/
def gcSameUptoRow : OpenClaim := { program := "ytajhchfjoeblgaa", sum := "8a2306c5305f356502566f99f845afe32bfe4138a178130daf116be4fd689eb5", func := "dawdler/dawdlerlaw14.GcSame", spec := "gcSame", unfollowed := true, recurses := true, apart := false, narrowed := true }
def GcSameUptoSaid : Prop := gcSameUptoRow.holds Try.pinned (OpenSpec.upto gcSameSpec)

/-- 'dawdlerlaw14.GcLeast', WHERE WHAT IT READS IS OF BULK AT MOST 1048576: true; the input reads as it did. -/
def gcLeastUptoRow : OpenClaim := { program := "ytajhchfjoeblgaa", sum := "8a2306c5305f356502566f99f845afe32bfe4138a178130daf116be4fd689eb5", func := "dawdler/dawdlerlaw14.GcLeast", spec := "gcLeast", unfollowed := true, recurses := true, apart := false, narrowed := true }
def GcLeastUptoSaid : Prop := gcLeastUptoRow.holds Try.pinned (OpenSpec.upto gcLeastSpec)

/-- 'dawdlerlaw14.GcMore', WHERE WHAT IT READS IS OF BULK AT MOST 1048576: true; the input reads as it did. -/
def gcMoreUptoRow : OpenClaim := { program := "ytajhchfjoeblgaa", sum := "8a2306c5305f356502566f99f845afe32bfe4138a178130daf116be4fd689eb5", func := "dawdler/dawdlerlaw14.GcMore", spec := "gcMore", unfollowed := true, recurses := true, apart := false, narrowed := true }
def GcMoreUptoSaid : Prop := gcMoreUptoRow.holds Try.pinned (OpenSpec.upto gcMoreSpec)

/-- 'dawdlerlaw14.GcPlaces', WHERE WHAT IT READS IS OF BULK AT MOST 1048576: true; the input reads as it did. -/
def gcPlacesUptoRow : OpenClaim := { program := "ytajhchfjoeblgaa", sum := "8a2306c5305f356502566f99f845afe32bfe4138a178130daf116be4fd689eb5", func := "dawdler/dawdlerlaw14.GcPlaces", spec := "gcPlaces", unfollowed := true, recurses := true, apart := false, narrowed := true }
def GcPlacesUptoSaid : Prop := gcPlacesUptoRow.holds Try.pinned (OpenSpec.upto gcPlacesSpec)

end Rows
end Go.Proofs.Ytajhchfjoeblgaa
