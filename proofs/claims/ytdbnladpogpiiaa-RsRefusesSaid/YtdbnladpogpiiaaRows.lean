/-
  No cell of these rows narrows 'for every input' (looked for: loops, veiled, ifaces, maps, wideKeys, modest, calm, conditions, laid).
  DERIVED. THE GIVEN ROWS OF THIS SEAT. 8 by the template 'for every input the law returns true; each argument reads behind the call as it read before'; 0 by the template 'total and deterministic' (their statements: YtdbnladpogpiiaaTotals.lean).
  GIVEN WITH THE SEED: the statements are not yours to turn. If you find one false, say at which input.
  Laid BY PROGRAM, IN A SANDBOX (cutbox-rows.mjs): the forced cells as the released guide's own fill.sh prints them over the translation 8bfafde278020430… (all of the seat's roots in one cut). By AI agents, Wed Nov 11 2026. No macro, syntax, notation, axiom, sorry.
-/
import Derived.Test.YtdbnladpogpiiaaChecked
import GoSem.Claim
import GoSem.ClaimJoined
import GoSem.ClaimMapViews
import Derived.JoinedTies
import Derived.KernelRfl
namespace Go.Proofs.Ytdbnladpogpiiaa
/- THE CELL 'sum', in the pinned program and in every row, IS THE sha256 OF THE DUMP (.gsa) THAT YtdbnladpogpiiaaProg.lean LOADS. Nothing in Lean hashes anything: it is a label: what it is worth is what the hold of that sum in a sandbox is worth. -/
noncomputable def Try.pinned : Pinned := { name := "ytdbnladpogpiiaa", sum := "8bfafde278020430a2e31e9e906e9cfe5493187a0d6a0c7f5033c46bce681013", checked := Try.checked }
namespace Rows
def none {H : Type} : Left H := { results := [], args := [] }

/-- 'ramekinlaw5.RsKnown': WHATEVER THE INPUT: true; the input reads as it did. -/
def rsKnownSpec : ChangeSpec := { name := "rsKnown", fn := fun _ => fun
  | [d1, d2, d3] => { results := [.lit (.bool true)], args := [d1, d2, d3] }
  | _ => none }
def rsKnownRow : OpenClaim := { program := "ytdbnladpogpiiaa", sum := "8bfafde278020430a2e31e9e906e9cfe5493187a0d6a0c7f5033c46bce681013", func := "ramekin/ramekinlaw5.RsKnown", spec := "rsKnown", unfollowed := true, recurses := true, apart := false }
def RsKnownSaid : Prop := rsKnownRow.holds Try.pinned (OpenSpec.ofChange rsKnownSpec)

/-- ITS FALSE NEIGHBOUR: 'it returns false'. Refute it at one input. -/
def rsKnownWrong : ChangeSpec := { name := "rsKnown", fn := fun _ => fun
  | [d1, d2, d3] => { results := [.lit (.bool false)], args := [d1, d2, d3] }
  | _ => none }
def RsKnownWrongFalsely : Prop := rsKnownRow.holds Try.pinned (OpenSpec.ofChange rsKnownWrong)

/-- 'ramekinlaw5.RsAdds': WHATEVER THE INPUT: true; the input reads as it did. -/
def rsAddsSpec : ChangeSpec := { name := "rsAdds", fn := fun _ => fun
  | [d1, d2, d3, d4] => { results := [.lit (.bool true)], args := [d1, d2, d3, d4] }
  | _ => none }
def rsAddsRow : OpenClaim := { program := "ytdbnladpogpiiaa", sum := "8bfafde278020430a2e31e9e906e9cfe5493187a0d6a0c7f5033c46bce681013", func := "ramekin/ramekinlaw5.RsAdds", spec := "rsAdds", unfollowed := true, recurses := true, apart := false }
def RsAddsSaid : Prop := rsAddsRow.holds Try.pinned (OpenSpec.ofChange rsAddsSpec)

/-- ITS FALSE NEIGHBOUR: 'it returns false'. Refute it at one input. -/
def rsAddsWrong : ChangeSpec := { name := "rsAdds", fn := fun _ => fun
  | [d1, d2, d3, d4] => { results := [.lit (.bool false)], args := [d1, d2, d3, d4] }
  | _ => none }
def RsAddsWrongFalsely : Prop := rsAddsRow.holds Try.pinned (OpenSpec.ofChange rsAddsWrong)

/-- 'ramekinlaw5.RsParity': WHATEVER THE INPUT: true; the input reads as it did. -/
def rsParitySpec : ChangeSpec := { name := "rsParity", fn := fun _ => fun
  | [d1, d2, d3, d4, d5, d6] => { results := [.lit (.bool true)], args := [d1, d2, d3, d4, d5, d6] }
  | _ => none }
def rsParityRow : OpenClaim := { program := "ytdbnladpogpiiaa", sum := "8bfafde278020430a2e31e9e906e9cfe5493187a0d6a0c7f5033c46bce681013", func := "ramekin/ramekinlaw5.RsParity", spec := "rsParity", unfollowed := true, recurses := true, apart := false }
def RsParitySaid : Prop := rsParityRow.holds Try.pinned (OpenSpec.ofChange rsParitySpec)

/-- ITS FALSE NEIGHBOUR: 'it returns false'. Refute it at one input. -/
def rsParityWrong : ChangeSpec := { name := "rsParity", fn := fun _ => fun
  | [d1, d2, d3, d4, d5, d6] => { results := [.lit (.bool false)], args := [d1, d2, d3, d4, d5, d6] }
  | _ => none }
def RsParityWrongFalsely : Prop := rsParityRow.holds Try.pinned (OpenSpec.ofChange rsParityWrong)

/-- 'ramekinlaw5.RsFixes': WHATEVER THE INPUT: true; the input reads as it did. -/
def rsFixesSpec : ChangeSpec := { name := "rsFixes", fn := fun _ => fun
  | [d1, d2, d3, d4, d5] => { results := [.lit (.bool true)], args := [d1, d2, d3, d4, d5] }
  | _ => none }
def rsFixesRow : OpenClaim := { program := "ytdbnladpogpiiaa", sum := "8bfafde278020430a2e31e9e906e9cfe5493187a0d6a0c7f5033c46bce681013", func := "ramekin/ramekinlaw5.RsFixes", spec := "rsFixes", unfollowed := true, recurses := true, apart := false }
def RsFixesSaid : Prop := rsFixesRow.holds Try.pinned (OpenSpec.ofChange rsFixesSpec)

/-- ITS FALSE NEIGHBOUR: 'it returns false'. Refute it at one input. -/
def rsFixesWrong : ChangeSpec := { name := "rsFixes", fn := fun _ => fun
  | [d1, d2, d3, d4, d5] => { results := [.lit (.bool false)], args := [d1, d2, d3, d4, d5] }
  | _ => none }
def RsFixesWrongFalsely : Prop := rsFixesRow.holds Try.pinned (OpenSpec.ofChange rsFixesWrong)

/-- 'ramekinlaw5.RsRefuses': WHATEVER THE INPUT: true; the input reads as it did. -/
def rsRefusesSpec : ChangeSpec := { name := "rsRefuses", fn := fun _ => fun
  | [d1, d2, d3, d4] => { results := [.lit (.bool true)], args := [d1, d2, d3, d4] }
  | _ => none }
def rsRefusesRow : OpenClaim := { program := "ytdbnladpogpiiaa", sum := "8bfafde278020430a2e31e9e906e9cfe5493187a0d6a0c7f5033c46bce681013", func := "ramekin/ramekinlaw5.RsRefuses", spec := "rsRefuses", unfollowed := true, recurses := true, apart := false }
def RsRefusesSaid : Prop := rsRefusesRow.holds Try.pinned (OpenSpec.ofChange rsRefusesSpec)

/-- ITS FALSE NEIGHBOUR: 'it returns false'. Refute it at one input. -/
def rsRefusesWrong : ChangeSpec := { name := "rsRefuses", fn := fun _ => fun
  | [d1, d2, d3, d4] => { results := [.lit (.bool false)], args := [d1, d2, d3, d4] }
  | _ => none }
def RsRefusesWrongFalsely : Prop := rsRefusesRow.holds Try.pinned (OpenSpec.ofChange rsRefusesWrong)

/-- 'ramekinlaw5.RsDetects': WHATEVER THE INPUT: true; the input reads as it did. -/
def rsDetectsSpec : ChangeSpec := { name := "rsDetects", fn := fun _ => fun
  | [d1, d2, d3, d4, d5] => { results := [.lit (.bool true)], args := [d1, d2, d3, d4, d5] }
  | _ => none }
def rsDetectsRow : OpenClaim := { program := "ytdbnladpogpiiaa", sum := "8bfafde278020430a2e31e9e906e9cfe5493187a0d6a0c7f5033c46bce681013", func := "ramekin/ramekinlaw5.RsDetects", spec := "rsDetects", unfollowed := true, recurses := true, apart := false }
def RsDetectsSaid : Prop := rsDetectsRow.holds Try.pinned (OpenSpec.ofChange rsDetectsSpec)

/-- ITS FALSE NEIGHBOUR: 'it returns false'. Refute it at one input. -/
def rsDetectsWrong : ChangeSpec := { name := "rsDetects", fn := fun _ => fun
  | [d1, d2, d3, d4, d5] => { results := [.lit (.bool false)], args := [d1, d2, d3, d4, d5] }
  | _ => none }
def RsDetectsWrongFalsely : Prop := rsDetectsRow.holds Try.pinned (OpenSpec.ofChange rsDetectsWrong)

/-- 'ramekinlaw5.RsAlone': WHATEVER THE INPUT: true; the input reads as it did. -/
def rsAloneSpec : ChangeSpec := { name := "rsAlone", fn := fun _ => fun
  | [d1, d2, d3, d4] => { results := [.lit (.bool true)], args := [d1, d2, d3, d4] }
  | _ => none }
def rsAloneRow : OpenClaim := { program := "ytdbnladpogpiiaa", sum := "8bfafde278020430a2e31e9e906e9cfe5493187a0d6a0c7f5033c46bce681013", func := "ramekin/ramekinlaw5.RsAlone", spec := "rsAlone", unfollowed := true, recurses := true, apart := false }
def RsAloneSaid : Prop := rsAloneRow.holds Try.pinned (OpenSpec.ofChange rsAloneSpec)

/-- ITS FALSE NEIGHBOUR: 'it returns false'. Refute it at one input. -/
def rsAloneWrong : ChangeSpec := { name := "rsAlone", fn := fun _ => fun
  | [d1, d2, d3, d4] => { results := [.lit (.bool false)], args := [d1, d2, d3, d4] }
  | _ => none }
def RsAloneWrongFalsely : Prop := rsAloneRow.holds Try.pinned (OpenSpec.ofChange rsAloneWrong)

/-- 'ramekinlaw5.RsBounds': WHATEVER THE INPUT: true; the input reads as it did. -/
def rsBoundsSpec : ChangeSpec := { name := "rsBounds", fn := fun _ => fun
  | [d1, d2, d3] => { results := [.lit (.bool true)], args := [d1, d2, d3] }
  | _ => none }
def rsBoundsRow : OpenClaim := { program := "ytdbnladpogpiiaa", sum := "8bfafde278020430a2e31e9e906e9cfe5493187a0d6a0c7f5033c46bce681013", func := "ramekin/ramekinlaw5.RsBounds", spec := "rsBounds", unfollowed := true, recurses := true, apart := false }
def RsBoundsSaid : Prop := rsBoundsRow.holds Try.pinned (OpenSpec.ofChange rsBoundsSpec)

/-- ITS FALSE NEIGHBOUR: 'it returns false'. Refute it at one input. -/
def rsBoundsWrong : ChangeSpec := { name := "rsBounds", fn := fun _ => fun
  | [d1, d2, d3] => { results := [.lit (.bool false)], args := [d1, d2, d3] }
  | _ => none }
def RsBoundsWrongFalsely : Prop := rsBoundsRow.holds Try.pinned (OpenSpec.ofChange rsBoundsWrong)

/- THE SECOND FORM. 'bulk': how many values and letters a reading holds, each counted each time it is reached (what is shared counts as often as it is met; a slice's spare places count too). A statement '..UptoSaid' is the law's where the arguments, and the package variables that the reading takes, are together of bulk at most 1048576: NARROWER than '..Said'. Prove '..Said' where nothing that the law and all that it calls make is longer than what came in: it says more and counts as full. Else prove '..UptoSaid'. A law counts once. -/
mutual
def uptoBulk {H : Type} : DataW H → Nat
  | .lit (.string bytes) => bytes.length + 1
  | .lit _ => 1
  | .nil => 1
  | .ptr d => uptoBulk d + 1
  | .slice elems spare => uptoBulkAll elems + uptoBulkAll spare + 1
  | .agg parts => uptoBulkAll parts + 1
  | .iface _ d => uptoBulk d + 1
  | .map entries => uptoBulkEntries entries + 1
  | .held _ => 1
def uptoBulkAll {H : Type} : List (DataW H) → Nat
  | [] => 0
  | d :: r => uptoBulk d + uptoBulkAll r
def uptoBulkEntries {H : Type} : List (Lit × DataW H) → Nat
  | [] => 0
  | x :: r => uptoBulkEntry x + uptoBulkEntries r
def uptoBulkEntry {H : Type} : Lit × DataW H → Nat
  | (.string bytes, d) => bytes.length + uptoBulk d + 1
  | (_, d) => uptoBulk d + 1
 end
def uptoSmall : (H : Type) → List (DataW H) → Bool := fun _ ds => decide (uptoBulkAll ds ≤ 1048576)
def OpenSpec.upto (s : _root_.Go.ChangeSpec) : _root_.Go.OpenSpec := { _root_.Go.OpenSpec.ofChange s with cond := some uptoSmall }

/-- 'ramekinlaw5.RsKnown', WHERE WHAT IT READS IS OF BULK AT MOST 1048576: true; the input reads as it did. -/
def rsKnownUptoRow : OpenClaim := { program := "ytdbnladpogpiiaa", sum := "8bfafde278020430a2e31e9e906e9cfe5493187a0d6a0c7f5033c46bce681013", func := "ramekin/ramekinlaw5.RsKnown", spec := "rsKnown", unfollowed := true, recurses := true, apart := false, narrowed := true }
def RsKnownUptoSaid : Prop := rsKnownUptoRow.holds Try.pinned (OpenSpec.upto rsKnownSpec)

/-- 'ramekinlaw5.RsAdds', WHERE WHAT IT READS IS OF BULK AT MOST 1048576: true; the input reads as it did. -/
def rsAddsUptoRow : OpenClaim := { program := "ytdbnladpogpiiaa", sum := "8bfafde278020430a2e31e9e906e9cfe5493187a0d6a0c7f5033c46bce681013", func := "ramekin/ramekinlaw5.RsAdds", spec := "rsAdds", unfollowed := true, recurses := true, apart := false, narrowed := true }
def RsAddsUptoSaid : Prop := rsAddsUptoRow.holds Try.pinned (OpenSpec.upto rsAddsSpec)

/-- 'ramekinlaw5.RsParity', WHERE WHAT IT READS IS OF BULK AT MOST 1048576: true; the input reads as it did. -/
def rsParityUptoRow : OpenClaim := { program := "ytdbnladpogpiiaa", sum := "8bfafde278020430a2e31e9e906e9cfe5493187a0d6a0c7f5033c46bce681013", func := "ramekin/ramekinlaw5.RsParity", spec := "rsParity", unfollowed := true, recurses := true, apart := false, narrowed := true }
def RsParityUptoSaid : Prop := rsParityUptoRow.holds Try.pinned (OpenSpec.upto rsParitySpec)

/-- 'ramekinlaw5.RsFixes', WHERE WHAT IT READS IS OF BULK AT MOST 1048576: true; the input reads as it did. -/
def rsFixesUptoRow : OpenClaim := { program := "ytdbnladpogpiiaa", sum := "8bfafde278020430a2e31e9e906e9cfe5493187a0d6a0c7f5033c46bce681013", func := "ramekin/ramekinlaw5.RsFixes", spec := "rsFixes", unfollowed := true, recurses := true, apart := false, narrowed := true }
def RsFixesUptoSaid : Prop := rsFixesUptoRow.holds Try.pinned (OpenSpec.upto rsFixesSpec)

/-- 'ramekinlaw5.RsRefuses', WHERE WHAT IT READS IS OF BULK AT MOST 1048576: true; the input reads as it did. -/
def rsRefusesUptoRow : OpenClaim := { program := "ytdbnladpogpiiaa", sum := "8bfafde278020430a2e31e9e906e9cfe5493187a0d6a0c7f5033c46bce681013", func := "ramekin/ramekinlaw5.RsRefuses", spec := "rsRefuses", unfollowed := true, recurses := true, apart := false, narrowed := true }
def RsRefusesUptoSaid : Prop := rsRefusesUptoRow.holds Try.pinned (OpenSpec.upto rsRefusesSpec)

/-- 'ramekinlaw5.RsDetects', WHERE WHAT IT READS IS OF BULK AT MOST 1048576: true; the input reads as it did. -/
def rsDetectsUptoRow : OpenClaim := { program := "ytdbnladpogpiiaa", sum := "8bfafde278020430a2e31e9e906e9cfe5493187a0d6a0c7f5033c46bce681013", func := "ramekin/ramekinlaw5.RsDetects", spec := "rsDetects", unfollowed := true, recurses := true, apart := false, narrowed := true }
def RsDetectsUptoSaid : Prop := rsDetectsUptoRow.holds Try.pinned (OpenSpec.upto rsDetectsSpec)

/-- 'ramekinlaw5.RsAlone', WHERE WHAT IT READS IS OF BULK AT MOST 1048576: true; the input reads as it did. -/
def rsAloneUptoRow : OpenClaim := { program := "ytdbnladpogpiiaa", sum := "8bfafde278020430a2e31e9e906e9cfe5493187a0d6a0c7f5033c46bce681013", func := "ramekin/ramekinlaw5.RsAlone", spec := "rsAlone", unfollowed := true, recurses := true, apart := false, narrowed := true }
def RsAloneUptoSaid : Prop := rsAloneUptoRow.holds Try.pinned (OpenSpec.upto rsAloneSpec)

/-- 'ramekinlaw5.RsBounds', WHERE WHAT IT READS IS OF BULK AT MOST 1048576: true; the input reads as it did. -/
def rsBoundsUptoRow : OpenClaim := { program := "ytdbnladpogpiiaa", sum := "8bfafde278020430a2e31e9e906e9cfe5493187a0d6a0c7f5033c46bce681013", func := "ramekin/ramekinlaw5.RsBounds", spec := "rsBounds", unfollowed := true, recurses := true, apart := false, narrowed := true }
def RsBoundsUptoSaid : Prop := rsBoundsUptoRow.holds Try.pinned (OpenSpec.upto rsBoundsSpec)

end Rows
end Go.Proofs.Ytdbnladpogpiiaa
