/-
  No cell of these rows narrows 'for every input' (looked for: loops, veiled, ifaces, maps, wideKeys, modest, calm, conditions, laid).
  DERIVED. THE GIVEN ROWS OF THIS SEAT. 6 by the template 'for every input the law returns true; each argument reads behind the call as it read before'; 0 by the template 'total and deterministic' (their statements: YtodbmgafejclmaaTotals.lean).
  GIVEN WITH THE SEED: the statements are not yours to turn. If you find one false, say at which input.
  Laid BY PROGRAM, IN A SANDBOX (cutbox-rows.mjs): the forced cells as the released guide's own fill.sh prints them over the translation 90ed349da1b428cd… (all of the seat's roots in one cut). By AI agents, Wed Nov 11 2026. No macro, syntax, notation, axiom, sorry.
-/
import Derived.Test.YtodbmgafejclmaaChecked
import GoSem.Claim
import GoSem.ClaimJoined
import GoSem.ClaimMapViews
import Derived.JoinedTies
import Derived.KernelRfl
namespace Go.Proofs.Ytodbmgafejclmaa
/- THE CELL 'sum', in the pinned program and in every row, IS THE sha256 OF THE DUMP (.gsa) THAT YtodbmgafejclmaaProg.lean LOADS. Nothing in Lean hashes anything: it is a label: what it is worth is what the hold of that sum in a sandbox is worth. -/
noncomputable def Try.pinned : Pinned := { name := "ytodbmgafejclmaa", sum := "90ed349da1b428cdf0c44a16aca85c1386795ca2d08a9bb5ed0b4bd5a95212ea", checked := Try.checked }
namespace Rows
def none {H : Type} : Left H := { results := [], args := [] }

/-- 'ramekinlaw13.ScanLast': WHATEVER THE INPUT: true; the input reads as it did. -/
def scanLastSpec : ChangeSpec := { name := "scanLast", fn := fun _ => fun
  | [d1, d2, d3, d4, d5, d6] => { results := [.lit (.bool true)], args := [d1, d2, d3, d4, d5, d6] }
  | _ => none }
def scanLastRow : OpenClaim := { program := "ytodbmgafejclmaa", sum := "90ed349da1b428cdf0c44a16aca85c1386795ca2d08a9bb5ed0b4bd5a95212ea", func := "ramekin/ramekinlaw13.ScanLast", spec := "scanLast", unfollowed := true, recurses := true, apart := false }
def ScanLastSaid : Prop := scanLastRow.holds Try.pinned (OpenSpec.ofChange scanLastSpec)

/-- ITS FALSE NEIGHBOUR: 'it returns false'. Refute it at one input. -/
def scanLastWrong : ChangeSpec := { name := "scanLast", fn := fun _ => fun
  | [d1, d2, d3, d4, d5, d6] => { results := [.lit (.bool false)], args := [d1, d2, d3, d4, d5, d6] }
  | _ => none }
def ScanLastWrongFalsely : Prop := scanLastRow.holds Try.pinned (OpenSpec.ofChange scanLastWrong)

/-- 'ramekinlaw13.ScanErased': WHATEVER THE INPUT: true; the input reads as it did. -/
def scanErasedSpec : ChangeSpec := { name := "scanErased", fn := fun _ => fun
  | [d1, d2, d3, d4, d5, d6, d7] => { results := [.lit (.bool true)], args := [d1, d2, d3, d4, d5, d6, d7] }
  | _ => none }
def scanErasedRow : OpenClaim := { program := "ytodbmgafejclmaa", sum := "90ed349da1b428cdf0c44a16aca85c1386795ca2d08a9bb5ed0b4bd5a95212ea", func := "ramekin/ramekinlaw13.ScanErased", spec := "scanErased", unfollowed := true, recurses := true, apart := false }
def ScanErasedSaid : Prop := scanErasedRow.holds Try.pinned (OpenSpec.ofChange scanErasedSpec)

/-- ITS FALSE NEIGHBOUR: 'it returns false'. Refute it at one input. -/
def scanErasedWrong : ChangeSpec := { name := "scanErased", fn := fun _ => fun
  | [d1, d2, d3, d4, d5, d6, d7] => { results := [.lit (.bool false)], args := [d1, d2, d3, d4, d5, d6, d7] }
  | _ => none }
def ScanErasedWrongFalsely : Prop := scanErasedRow.holds Try.pinned (OpenSpec.ofChange scanErasedWrong)

/-- 'ramekinlaw13.ScanStates': WHATEVER THE INPUT: true; the input reads as it did. -/
def scanStatesSpec : ChangeSpec := { name := "scanStates", fn := fun _ => fun
  | [d1, d2, d3, d4, d5] => { results := [.lit (.bool true)], args := [d1, d2, d3, d4, d5] }
  | _ => none }
def scanStatesRow : OpenClaim := { program := "ytodbmgafejclmaa", sum := "90ed349da1b428cdf0c44a16aca85c1386795ca2d08a9bb5ed0b4bd5a95212ea", func := "ramekin/ramekinlaw13.ScanStates", spec := "scanStates", unfollowed := true, recurses := true, apart := false }
def ScanStatesSaid : Prop := scanStatesRow.holds Try.pinned (OpenSpec.ofChange scanStatesSpec)

/-- ITS FALSE NEIGHBOUR: 'it returns false'. Refute it at one input. -/
def scanStatesWrong : ChangeSpec := { name := "scanStates", fn := fun _ => fun
  | [d1, d2, d3, d4, d5] => { results := [.lit (.bool false)], args := [d1, d2, d3, d4, d5] }
  | _ => none }
def ScanStatesWrongFalsely : Prop := scanStatesRow.holds Try.pinned (OpenSpec.ofChange scanStatesWrong)

/-- 'ramekinlaw13.ScanHeavy': WHATEVER THE INPUT: true; the input reads as it did. -/
def scanHeavySpec : ChangeSpec := { name := "scanHeavy", fn := fun _ => fun
  | [d1, d2, d3, d4] => { results := [.lit (.bool true)], args := [d1, d2, d3, d4] }
  | _ => none }
def scanHeavyRow : OpenClaim := { program := "ytodbmgafejclmaa", sum := "90ed349da1b428cdf0c44a16aca85c1386795ca2d08a9bb5ed0b4bd5a95212ea", func := "ramekin/ramekinlaw13.ScanHeavy", spec := "scanHeavy", unfollowed := true, recurses := true, apart := false }
def ScanHeavySaid : Prop := scanHeavyRow.holds Try.pinned (OpenSpec.ofChange scanHeavySpec)

/-- ITS FALSE NEIGHBOUR: 'it returns false'. Refute it at one input. -/
def scanHeavyWrong : ChangeSpec := { name := "scanHeavy", fn := fun _ => fun
  | [d1, d2, d3, d4] => { results := [.lit (.bool false)], args := [d1, d2, d3, d4] }
  | _ => none }
def ScanHeavyWrongFalsely : Prop := scanHeavyRow.holds Try.pinned (OpenSpec.ofChange scanHeavyWrong)

/-- 'ramekinlaw13.ScanOther': WHATEVER THE INPUT: true; the input reads as it did. -/
def scanOtherSpec : ChangeSpec := { name := "scanOther", fn := fun _ => fun
  | [d1, d2, d3, d4] => { results := [.lit (.bool true)], args := [d1, d2, d3, d4] }
  | _ => none }
def scanOtherRow : OpenClaim := { program := "ytodbmgafejclmaa", sum := "90ed349da1b428cdf0c44a16aca85c1386795ca2d08a9bb5ed0b4bd5a95212ea", func := "ramekin/ramekinlaw13.ScanOther", spec := "scanOther", unfollowed := true, recurses := true, apart := false }
def ScanOtherSaid : Prop := scanOtherRow.holds Try.pinned (OpenSpec.ofChange scanOtherSpec)

/-- ITS FALSE NEIGHBOUR: 'it returns false'. Refute it at one input. -/
def scanOtherWrong : ChangeSpec := { name := "scanOther", fn := fun _ => fun
  | [d1, d2, d3, d4] => { results := [.lit (.bool false)], args := [d1, d2, d3, d4] }
  | _ => none }
def ScanOtherWrongFalsely : Prop := scanOtherRow.holds Try.pinned (OpenSpec.ofChange scanOtherWrong)

/-- 'ramekinlaw13.ScanSlots': WHATEVER THE INPUT: true; the input reads as it did. -/
def scanSlotsSpec : ChangeSpec := { name := "scanSlots", fn := fun _ => fun
  | [d1, d2] => { results := [.lit (.bool true)], args := [d1, d2] }
  | _ => none }
def scanSlotsRow : OpenClaim := { program := "ytodbmgafejclmaa", sum := "90ed349da1b428cdf0c44a16aca85c1386795ca2d08a9bb5ed0b4bd5a95212ea", func := "ramekin/ramekinlaw13.ScanSlots", spec := "scanSlots", unfollowed := true, recurses := true, apart := false }
def ScanSlotsSaid : Prop := scanSlotsRow.holds Try.pinned (OpenSpec.ofChange scanSlotsSpec)

/-- ITS FALSE NEIGHBOUR: 'it returns false'. Refute it at one input. -/
def scanSlotsWrong : ChangeSpec := { name := "scanSlots", fn := fun _ => fun
  | [d1, d2] => { results := [.lit (.bool false)], args := [d1, d2] }
  | _ => none }
def ScanSlotsWrongFalsely : Prop := scanSlotsRow.holds Try.pinned (OpenSpec.ofChange scanSlotsWrong)

/- THE SECOND FORM. 'bulk': how many values and letters a reading holds, each counted each time it is reached (what is shared counts as often as it is met; a slice's spare places count too). A statement '..UptoSaid' is the law's where the arguments, and the package variables that the reading takes, are together of bulk at most 1048576: NARROWER than '..Said'. Prove '..Said' where nothing that the law and all that it calls make is longer than what came in: it says more and counts as full. Else prove '..UptoSaid'. A law counts once. -/
mutual
def uptoBulk {H : Type} : DataW H → Nat
  | .lit (.string bytes) => bytes.length + 1
  | .lit _ => 1
  | .nil => 1
  | .ptr d => uptoBulk d + 1
  | .slice elems spare => uptoBulkAll elems + uptoBulkAll spare + 1
  | .agg parts => uptoBulkAll parts + 1
  | .iface _ d => uptoBulk d + 1
  | .map entries => uptoBulkEntries entries + 1
  | .held _ => 1
def uptoBulkAll {H : Type} : List (DataW H) → Nat
  | [] => 0
  | d :: r => uptoBulk d + uptoBulkAll r
def uptoBulkEntries {H : Type} : List (Lit × DataW H) → Nat
  | [] => 0
  | x :: r => uptoBulkEntry x + uptoBulkEntries r
def uptoBulkEntry {H : Type} : Lit × DataW H → Nat
  | (.string bytes, d) => bytes.length + uptoBulk d + 1
  | (_, d) => uptoBulk d + 1
 end
def uptoSmall : (H : Type) → List (DataW H) → Bool := fun _ ds => decide (uptoBulkAll ds ≤ 1048576)
def OpenSpec.upto (s : _root_.Go.ChangeSpec) : _root_.Go.OpenSpec := { _root_.Go.OpenSpec.ofChange s with cond := some uptoSmall }

/-- 'ramekinlaw13.ScanLast', WHERE WHAT IT READS IS OF BULK AT MOST 1048576: true; the input reads as it did. -/
def scanLastUptoRow : OpenClaim := { program := "ytodbmgafejclmaa", sum := "90ed349da1b428cdf0c44a16aca85c1386795ca2d08a9bb5ed0b4bd5a95212ea", func := "ramekin/ramekinlaw13.ScanLast", spec := "scanLast", unfollowed := true, recurses := true, apart := false, narrowed := true }
def ScanLastUptoSaid : Prop := scanLastUptoRow.holds Try.pinned (OpenSpec.upto scanLastSpec)

/-- 'ramekinlaw13.ScanErased', WHERE WHAT IT READS IS OF BULK AT MOST 1048576: true; the input reads as it did. -/
def scanErasedUptoRow : OpenClaim := { program := "ytodbmgafejclmaa", sum := "90ed349da1b428cdf0c44a16aca85c1386795ca2d08a9bb5ed0b4bd5a95212ea", func := "ramekin/ramekinlaw13.ScanErased", spec := "scanErased", unfollowed := true, recurses := true, apart := false, narrowed := true }
def ScanErasedUptoSaid : Prop := scanErasedUptoRow.holds Try.pinned (OpenSpec.upto scanErasedSpec)

/-- 'ramekinlaw13.ScanStates', WHERE WHAT IT READS IS OF BULK AT MOST 1048576: true; the input reads as it did. -/
def scanStatesUptoRow : OpenClaim := { program := "ytodbmgafejclmaa", sum := "90ed349da1b428cdf0c44a16aca85c1386795ca2d08a9bb5ed0b4bd5a95212ea", func := "ramekin/ramekinlaw13.ScanStates", spec := "scanStates", unfollowed := true, recurses := true, apart := false, narrowed := true }
def ScanStatesUptoSaid : Prop := scanStatesUptoRow.holds Try.pinned (OpenSpec.upto scanStatesSpec)

/-- 'ramekinlaw13.ScanHeavy', WHERE WHAT IT READS IS OF BULK AT MOST 1048576: true; the input reads as it did. -/
def scanHeavyUptoRow : OpenClaim := { program := "ytodbmgafejclmaa", sum := "90ed349da1b428cdf0c44a16aca85c1386795ca2d08a9bb5ed0b4bd5a95212ea", func := "ramekin/ramekinlaw13.ScanHeavy", spec := "scanHeavy", unfollowed := true, recurses := true, apart := false, narrowed := true }
def ScanHeavyUptoSaid : Prop := scanHeavyUptoRow.holds Try.pinned (OpenSpec.upto scanHeavySpec)

/-- 'ramekinlaw13.ScanOther', WHERE WHAT IT READS IS OF BULK AT MOST 1048576: true; the input reads as it did. -/
def scanOtherUptoRow : OpenClaim := { program := "ytodbmgafejclmaa", sum := "90ed349da1b428cdf0c44a16aca85c1386795ca2d08a9bb5ed0b4bd5a95212ea", func := "ramekin/ramekinlaw13.ScanOther", spec := "scanOther", unfollowed := true, recurses := true, apart := false, narrowed := true }
def ScanOtherUptoSaid : Prop := scanOtherUptoRow.holds Try.pinned (OpenSpec.upto scanOtherSpec)

/-- 'ramekinlaw13.ScanSlots', WHERE WHAT IT READS IS OF BULK AT MOST 1048576: true; the input reads as it did. -/
def scanSlotsUptoRow : OpenClaim := { program := "ytodbmgafejclmaa", sum := "90ed349da1b428cdf0c44a16aca85c1386795ca2d08a9bb5ed0b4bd5a95212ea", func := "ramekin/ramekinlaw13.ScanSlots", spec := "scanSlots", unfollowed := true, recurses := true, apart := false, narrowed := true }
def ScanSlotsUptoSaid : Prop := scanSlotsUptoRow.holds Try.pinned (OpenSpec.upto scanSlotsSpec)

end Rows
end Go.Proofs.Ytodbmgafejclmaa
