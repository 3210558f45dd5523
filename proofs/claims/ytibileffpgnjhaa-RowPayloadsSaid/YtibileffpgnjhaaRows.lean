/-
  No cell of these rows narrows 'for every input' (looked for: loops, veiled, ifaces, maps, wideKeys, modest, calm, conditions, laid).
  DERIVED. THE GIVEN ROWS OF THIS SEAT. 7 by the template 'for every input the law returns true; each argument reads behind the call as it read before'; 0 by the template 'total and deterministic' (their statements: YtibileffpgnjhaaTotals.lean).
  GIVEN WITH THE SEED: the statements are not yours to turn. If you find one false, say at which input.
  Laid BY PROGRAM, IN A SANDBOX (cutbox-rows.mjs): the forced cells as the released guide's own fill.sh prints them over the translation 5a1e27ad1824667c… (all of the seat's roots in one cut). By AI agents, Wed Nov 11 2026. No macro, syntax, notation, axiom, sorry.
-/
import Derived.Test.YtibileffpgnjhaaChecked
import GoSem.Claim
import GoSem.ClaimJoined
import GoSem.ClaimMapViews
import Derived.JoinedTies
import Derived.KernelRfl
namespace Go.Proofs.Ytibileffpgnjhaa
/- THE CELL 'sum', in the pinned program and in every row, IS THE sha256 OF THE DUMP (.gsa) THAT YtibileffpgnjhaaProg.lean LOADS. Nothing in Lean hashes anything: it is a label: what it is worth is what the hold of that sum in a sandbox is worth. -/
noncomputable def Try.pinned : Pinned := { name := "ytibileffpgnjhaa", sum := "5a1e27ad1824667c6ef38a45d4fb1e766eb5450416f325cb1a8d940a5bd432bc", checked := Try.checked }
namespace Rows
def none {H : Type} : Left H := { results := [], args := [] }

/-- 'ramekinlaw11.RowEncodes': WHATEVER THE INPUT: true; the input reads as it did. -/
def rowEncodesSpec : ChangeSpec := { name := "rowEncodes", fn := fun _ => fun
  | [d1, d2, d3, d4, d5] => { results := [.lit (.bool true)], args := [d1, d2, d3, d4, d5] }
  | _ => none }
def rowEncodesRow : OpenClaim := { program := "ytibileffpgnjhaa", sum := "5a1e27ad1824667c6ef38a45d4fb1e766eb5450416f325cb1a8d940a5bd432bc", func := "ramekin/ramekinlaw11.RowEncodes", spec := "rowEncodes", unfollowed := true, recurses := true, apart := false }
def RowEncodesSaid : Prop := rowEncodesRow.holds Try.pinned (OpenSpec.ofChange rowEncodesSpec)

/-- ITS FALSE NEIGHBOUR: 'it returns false'. Refute it at one input. -/
def rowEncodesWrong : ChangeSpec := { name := "rowEncodes", fn := fun _ => fun
  | [d1, d2, d3, d4, d5] => { results := [.lit (.bool false)], args := [d1, d2, d3, d4, d5] }
  | _ => none }
def RowEncodesWrongFalsely : Prop := rowEncodesRow.holds Try.pinned (OpenSpec.ofChange rowEncodesWrong)

/-- 'ramekinlaw11.RowBack': WHATEVER THE INPUT: true; the input reads as it did. -/
def rowBackSpec : ChangeSpec := { name := "rowBack", fn := fun _ => fun
  | [d1, d2, d3, d4, d5, d6, d7] => { results := [.lit (.bool true)], args := [d1, d2, d3, d4, d5, d6, d7] }
  | _ => none }
def rowBackRow : OpenClaim := { program := "ytibileffpgnjhaa", sum := "5a1e27ad1824667c6ef38a45d4fb1e766eb5450416f325cb1a8d940a5bd432bc", func := "ramekin/ramekinlaw11.RowBack", spec := "rowBack", unfollowed := true, recurses := true, apart := false }
def RowBackSaid : Prop := rowBackRow.holds Try.pinned (OpenSpec.ofChange rowBackSpec)

/-- ITS FALSE NEIGHBOUR: 'it returns false'. Refute it at one input. -/
def rowBackWrong : ChangeSpec := { name := "rowBack", fn := fun _ => fun
  | [d1, d2, d3, d4, d5, d6, d7] => { results := [.lit (.bool false)], args := [d1, d2, d3, d4, d5, d6, d7] }
  | _ => none }
def RowBackWrongFalsely : Prop := rowBackRow.holds Try.pinned (OpenSpec.ofChange rowBackWrong)

/-- 'ramekinlaw11.RowWrong': WHATEVER THE INPUT: true; the input reads as it did. -/
def rowWrongSpec : ChangeSpec := { name := "rowWrong", fn := fun _ => fun
  | [d1, d2, d3, d4] => { results := [.lit (.bool true)], args := [d1, d2, d3, d4] }
  | _ => none }
def rowWrongRow : OpenClaim := { program := "ytibileffpgnjhaa", sum := "5a1e27ad1824667c6ef38a45d4fb1e766eb5450416f325cb1a8d940a5bd432bc", func := "ramekin/ramekinlaw11.RowWrong", spec := "rowWrong", unfollowed := true, recurses := true, apart := false }
def RowWrongSaid : Prop := rowWrongRow.holds Try.pinned (OpenSpec.ofChange rowWrongSpec)

/-- ITS FALSE NEIGHBOUR: 'it returns false'. Refute it at one input. -/
def rowWrongWrong : ChangeSpec := { name := "rowWrong", fn := fun _ => fun
  | [d1, d2, d3, d4] => { results := [.lit (.bool false)], args := [d1, d2, d3, d4] }
  | _ => none }
def RowWrongWrongFalsely : Prop := rowWrongRow.holds Try.pinned (OpenSpec.ofChange rowWrongWrong)

/-- 'ramekinlaw11.RowPayloads': WHATEVER THE INPUT: true; the input reads as it did. -/
def rowPayloadsSpec : ChangeSpec := { name := "rowPayloads", fn := fun _ => fun
  | [d1, d2, d3, d4, d5] => { results := [.lit (.bool true)], args := [d1, d2, d3, d4, d5] }
  | _ => none }
def rowPayloadsRow : OpenClaim := { program := "ytibileffpgnjhaa", sum := "5a1e27ad1824667c6ef38a45d4fb1e766eb5450416f325cb1a8d940a5bd432bc", func := "ramekin/ramekinlaw11.RowPayloads", spec := "rowPayloads", unfollowed := true, recurses := true, apart := false }
def RowPayloadsSaid : Prop := rowPayloadsRow.holds Try.pinned (OpenSpec.ofChange rowPayloadsSpec)

/-- ITS FALSE NEIGHBOUR: 'it returns false'. Refute it at one input. -/
def rowPayloadsWrong : ChangeSpec := { name := "rowPayloads", fn := fun _ => fun
  | [d1, d2, d3, d4, d5] => { results := [.lit (.bool false)], args := [d1, d2, d3, d4, d5] }
  | _ => none }
def RowPayloadsWrongFalsely : Prop := rowPayloadsRow.holds Try.pinned (OpenSpec.ofChange rowPayloadsWrong)

/-- 'ramekinlaw11.RowPlace': WHATEVER THE INPUT: true; the input reads as it did. -/
def rowPlaceSpec : ChangeSpec := { name := "rowPlace", fn := fun _ => fun
  | [d1, d2, d3, d4, d5] => { results := [.lit (.bool true)], args := [d1, d2, d3, d4, d5] }
  | _ => none }
def rowPlaceRow : OpenClaim := { program := "ytibileffpgnjhaa", sum := "5a1e27ad1824667c6ef38a45d4fb1e766eb5450416f325cb1a8d940a5bd432bc", func := "ramekin/ramekinlaw11.RowPlace", spec := "rowPlace", unfollowed := true, recurses := true, apart := false }
def RowPlaceSaid : Prop := rowPlaceRow.holds Try.pinned (OpenSpec.ofChange rowPlaceSpec)

/-- ITS FALSE NEIGHBOUR: 'it returns false'. Refute it at one input. -/
def rowPlaceWrong : ChangeSpec := { name := "rowPlace", fn := fun _ => fun
  | [d1, d2, d3, d4, d5] => { results := [.lit (.bool false)], args := [d1, d2, d3, d4, d5] }
  | _ => none }
def RowPlaceWrongFalsely : Prop := rowPlaceRow.holds Try.pinned (OpenSpec.ofChange rowPlaceWrong)

/-- 'ramekinlaw11.RowBlank': WHATEVER THE INPUT: true; the input reads as it did. -/
def rowBlankSpec : ChangeSpec := { name := "rowBlank", fn := fun _ => fun
  | [d1, d2, d3, d4, d5] => { results := [.lit (.bool true)], args := [d1, d2, d3, d4, d5] }
  | _ => none }
def rowBlankRow : OpenClaim := { program := "ytibileffpgnjhaa", sum := "5a1e27ad1824667c6ef38a45d4fb1e766eb5450416f325cb1a8d940a5bd432bc", func := "ramekin/ramekinlaw11.RowBlank", spec := "rowBlank", unfollowed := true, recurses := true, apart := false }
def RowBlankSaid : Prop := rowBlankRow.holds Try.pinned (OpenSpec.ofChange rowBlankSpec)

/-- ITS FALSE NEIGHBOUR: 'it returns false'. Refute it at one input. -/
def rowBlankWrong : ChangeSpec := { name := "rowBlank", fn := fun _ => fun
  | [d1, d2, d3, d4, d5] => { results := [.lit (.bool false)], args := [d1, d2, d3, d4, d5] }
  | _ => none }
def RowBlankWrongFalsely : Prop := rowBlankRow.holds Try.pinned (OpenSpec.ofChange rowBlankWrong)

/-- 'ramekinlaw11.RowBounds': WHATEVER THE INPUT: true; the input reads as it did. -/
def rowBoundsSpec : ChangeSpec := { name := "rowBounds", fn := fun _ => fun
  | [d1, d2, d3] => { results := [.lit (.bool true)], args := [d1, d2, d3] }
  | _ => none }
def rowBoundsRow : OpenClaim := { program := "ytibileffpgnjhaa", sum := "5a1e27ad1824667c6ef38a45d4fb1e766eb5450416f325cb1a8d940a5bd432bc", func := "ramekin/ramekinlaw11.RowBounds", spec := "rowBounds", unfollowed := true, recurses := true, apart := false }
def RowBoundsSaid : Prop := rowBoundsRow.holds Try.pinned (OpenSpec.ofChange rowBoundsSpec)

/-- ITS FALSE NEIGHBOUR: 'it returns false'. Refute it at one input. -/
def rowBoundsWrong : ChangeSpec := { name := "rowBounds", fn := fun _ => fun
  | [d1, d2, d3] => { results := [.lit (.bool false)], args := [d1, d2, d3] }
  | _ => none }
def RowBoundsWrongFalsely : Prop := rowBoundsRow.holds Try.pinned (OpenSpec.ofChange rowBoundsWrong)

/- THE SECOND FORM. 'bulk': how many values and letters a reading holds, each counted each time it is reached (what is shared counts as often as it is met; a slice's spare places count too). A statement '..UptoSaid' is the law's where the arguments, and the package variables that the reading takes, are together of bulk at most 1048576: NARROWER than '..Said'. Prove '..Said' where nothing that the law and all that it calls make is longer than what came in: it says more and counts as full. Else prove '..UptoSaid'. A law counts once. -/
mutual
def uptoBulk {H : Type} : DataW H → Nat
  | .lit (.string bytes) => bytes.length + 1
  | .lit _ => 1
  | .nil => 1
  | .ptr d => uptoBulk d + 1
  | .slice elems spare => uptoBulkAll elems + uptoBulkAll spare + 1
  | .agg parts => uptoBulkAll parts + 1
  | .iface _ d => uptoBulk d + 1
  | .map entries => uptoBulkEntries entries + 1
  | .held _ => 1
def uptoBulkAll {H : Type} : List (DataW H) → Nat
  | [] => 0
  | d :: r => uptoBulk d + uptoBulkAll r
def uptoBulkEntries {H : Type} : List (Lit × DataW H) → Nat
  | [] => 0
  | x :: r => uptoBulkEntry x + uptoBulkEntries r
def uptoBulkEntry {H : Type} : Lit × DataW H → Nat
  | (.string bytes, d) => bytes.length + uptoBulk d + 1
  | (_, d) => uptoBulk d + 1
 end
def uptoSmall : (H : Type) → List (DataW H) → Bool := fun _ ds => decide (uptoBulkAll ds ≤ 1048576)
def OpenSpec.upto (s : _root_.Go.ChangeSpec) : _root_.Go.OpenSpec := { _root_.Go.OpenSpec.ofChange s with cond := some uptoSmall }

/-- 'ramekinlaw11.RowEncodes', WHERE WHAT IT READS IS OF BULK AT MOST 1048576: true; the input reads as it did. -/
def rowEncodesUptoRow : OpenClaim := { program := "ytibileffpgnjhaa", sum := "5a1e27ad1824667c6ef38a45d4fb1e766eb5450416f325cb1a8d940a5bd432bc", func := "ramekin/ramekinlaw11.RowEncodes", spec := "rowEncodes", unfollowed := true, recurses := true, apart := false, narrowed := true }
def RowEncodesUptoSaid : Prop := rowEncodesUptoRow.holds Try.pinned (OpenSpec.upto rowEncodesSpec)

/-- 'ramekinlaw11.RowBack', WHERE WHAT IT READS IS OF BULK AT MOST 1048576: true; the input reads as it did. -/
def rowBackUptoRow : OpenClaim := { program := "ytibileffpgnjhaa", sum := "5a1e27ad1824667c6ef38a45d4fb1e766eb5450416f325cb1a8d940a5bd432bc", func := "ramekin/ramekinlaw11.RowBack", spec := "rowBack", unfollowed := true, recurses := true, apart := false, narrowed := true }
def RowBackUptoSaid : Prop := rowBackUptoRow.holds Try.pinned (OpenSpec.upto rowBackSpec)

/-- 'ramekinlaw11.RowWrong', WHERE WHAT IT READS IS OF BULK AT MOST 1048576: true; the input reads as it did. -/
def rowWrongUptoRow : OpenClaim := { program := "ytibileffpgnjhaa", sum := "5a1e27ad1824667c6ef38a45d4fb1e766eb5450416f325cb1a8d940a5bd432bc", func := "ramekin/ramekinlaw11.RowWrong", spec := "rowWrong", unfollowed := true, recurses := true, apart := false, narrowed := true }
def RowWrongUptoSaid : Prop := rowWrongUptoRow.holds Try.pinned (OpenSpec.upto rowWrongSpec)

/-- 'ramekinlaw11.RowPayloads', WHERE WHAT IT READS IS OF BULK AT MOST 1048576: true; the input reads as it did. -/
def rowPayloadsUptoRow : OpenClaim := { program := "ytibileffpgnjhaa", sum := "5a1e27ad1824667c6ef38a45d4fb1e766eb5450416f325cb1a8d940a5bd432bc", func := "ramekin/ramekinlaw11.RowPayloads", spec := "rowPayloads", unfollowed := true, recurses := true, apart := false, narrowed := true }
def RowPayloadsUptoSaid : Prop := rowPayloadsUptoRow.holds Try.pinned (OpenSpec.upto rowPayloadsSpec)

/-- 'ramekinlaw11.RowPlace', WHERE WHAT IT READS IS OF BULK AT MOST 1048576: true; the input reads as it did. -/
def rowPlaceUptoRow : OpenClaim := { program := "ytibileffpgnjhaa", sum := "5a1e27ad1824667c6ef38a45d4fb1e766eb5450416f325cb1a8d940a5bd432bc", func := "ramekin/ramekinlaw11.RowPlace", spec := "rowPlace", unfollowed := true, recurses := true, apart := false, narrowed := true }
def RowPlaceUptoSaid : Prop := rowPlaceUptoRow.holds Try.pinned (OpenSpec.upto rowPlaceSpec)

/-- 'ramekinlaw11.RowBlank', WHERE WHAT IT READS IS OF BULK AT MOST 1048576: true; the input reads as it did. -/
def rowBlankUptoRow : OpenClaim := { program := "ytibileffpgnjhaa", sum := "5a1e27ad1824667c6ef38a45d4fb1e766eb5450416f325cb1a8d940a5bd432bc", func := "ramekin/ramekinlaw11.RowBlank", spec := "rowBlank", unfollowed := true, recurses := true, apart := false, narrowed := true }
def RowBlankUptoSaid : Prop := rowBlankUptoRow.holds Try.pinned (OpenSpec.upto rowBlankSpec)

/-- 'ramekinlaw11.RowBounds', WHERE WHAT IT READS IS OF BULK AT MOST 1048576: true; the input reads as it did. -/
def rowBoundsUptoRow : OpenClaim := { program := "ytibileffpgnjhaa", sum := "5a1e27ad1824667c6ef38a45d4fb1e766eb5450416f325cb1a8d940a5bd432bc", func := "ramekin/ramekinlaw11.RowBounds", spec := "rowBounds", unfollowed := true, recurses := true, apart := false, narrowed := true }
def RowBoundsUptoSaid : Prop := rowBoundsUptoRow.holds Try.pinned (OpenSpec.upto rowBoundsSpec)

end Rows
end Go.Proofs.Ytibileffpgnjhaa
