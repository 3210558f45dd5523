/-
  No cell of these rows narrows 'for every input' (looked for: loops, veiled, ifaces, maps, wideKeys, modest, calm, conditions, laid).
  DERIVED. THE GIVEN ROWS OF THIS SEAT. 7 by the template 'for every input the law returns true; each argument reads behind the call as it read before'; 0 by the template 'total and deterministic' (their statements: YtpblhedmfeddbaaTotals.lean).
  GIVEN WITH THE SEED: the statements are not yours to turn. If you find one false, say at which input.
  Laid BY PROGRAM, IN A SANDBOX (cutbox-rows.mjs): the forced cells as the released guide's own fill.sh prints them over the translation 2d946e2bc529abca… (all of the seat's roots in one cut). By AI agents, Wed Nov 11 2026. No macro, syntax, notation, axiom, sorry.
-/
import Derived.Test.YtpblhedmfeddbaaChecked
import GoSem.Claim
import GoSem.ClaimJoined
import GoSem.ClaimMapViews
import Derived.JoinedTies
import Derived.KernelRfl
namespace Go.Proofs.Ytpblhedmfeddbaa
/- THE CELL 'sum', in the pinned program and in every row, IS THE sha256 OF THE DUMP (.gsa) THAT YtpblhedmfeddbaaProg.lean LOADS. Nothing in Lean hashes anything: it is a label: what it is worth is what the hold of that sum in a sandbox is worth. -/
noncomputable def Try.pinned : Pinned := { name := "ytpblhedmfeddbaa", sum := "2d946e2bc529abcac37849caacaced7972697ac413688a8d3a08eeec081bdee7", checked := Try.checked }
namespace Rows
def none {H : Type} : Left H := { results := [], args := [] }

/-- 'ramekinlaw17.BufferFinds': WHATEVER THE INPUT: true; the input reads as it did. -/
def bufferFindsSpec : ChangeSpec := { name := "bufferFinds", fn := fun _ => fun
  | [d1, d2, d3] => { results := [.lit (.bool true)], args := [d1, d2, d3] }
  | _ => none }
def bufferFindsRow : OpenClaim := { program := "ytpblhedmfeddbaa", sum := "2d946e2bc529abcac37849caacaced7972697ac413688a8d3a08eeec081bdee7", func := "ramekin/ramekinlaw17.BufferFinds", spec := "bufferFinds", apart := false }
def BufferFindsSaid : Prop := bufferFindsRow.holds Try.pinned (OpenSpec.ofChange bufferFindsSpec)

/-- ITS FALSE NEIGHBOUR: 'it returns false'. Refute it at one input. -/
def bufferFindsWrong : ChangeSpec := { name := "bufferFinds", fn := fun _ => fun
  | [d1, d2, d3] => { results := [.lit (.bool false)], args := [d1, d2, d3] }
  | _ => none }
def BufferFindsWrongFalsely : Prop := bufferFindsRow.holds Try.pinned (OpenSpec.ofChange bufferFindsWrong)

/-- 'ramekinlaw17.BufferOrder': WHATEVER THE INPUT: true; the input reads as it did. -/
def bufferOrderSpec : ChangeSpec := { name := "bufferOrder", fn := fun _ => fun
  | [d1, d2, d3] => { results := [.lit (.bool true)], args := [d1, d2, d3] }
  | _ => none }
def bufferOrderRow : OpenClaim := { program := "ytpblhedmfeddbaa", sum := "2d946e2bc529abcac37849caacaced7972697ac413688a8d3a08eeec081bdee7", func := "ramekin/ramekinlaw17.BufferOrder", spec := "bufferOrder", apart := false }
def BufferOrderSaid : Prop := bufferOrderRow.holds Try.pinned (OpenSpec.ofChange bufferOrderSpec)

/-- ITS FALSE NEIGHBOUR: 'it returns false'. Refute it at one input. -/
def bufferOrderWrong : ChangeSpec := { name := "bufferOrder", fn := fun _ => fun
  | [d1, d2, d3] => { results := [.lit (.bool false)], args := [d1, d2, d3] }
  | _ => none }
def BufferOrderWrongFalsely : Prop := bufferOrderRow.holds Try.pinned (OpenSpec.ofChange bufferOrderWrong)

/-- 'ramekinlaw17.BufferTakes': WHATEVER THE INPUT: true; the input reads as it did. -/
def bufferTakesSpec : ChangeSpec := { name := "bufferTakes", fn := fun _ => fun
  | [d1, d2] => { results := [.lit (.bool true)], args := [d1, d2] }
  | _ => none }
def bufferTakesRow : OpenClaim := { program := "ytpblhedmfeddbaa", sum := "2d946e2bc529abcac37849caacaced7972697ac413688a8d3a08eeec081bdee7", func := "ramekin/ramekinlaw17.BufferTakes", spec := "bufferTakes", apart := false }
def BufferTakesSaid : Prop := bufferTakesRow.holds Try.pinned (OpenSpec.ofChange bufferTakesSpec)

/-- ITS FALSE NEIGHBOUR: 'it returns false'. Refute it at one input. -/
def bufferTakesWrong : ChangeSpec := { name := "bufferTakes", fn := fun _ => fun
  | [d1, d2] => { results := [.lit (.bool false)], args := [d1, d2] }
  | _ => none }
def BufferTakesWrongFalsely : Prop := bufferTakesRow.holds Try.pinned (OpenSpec.ofChange bufferTakesWrong)

/-- 'ramekinlaw17.BufferPlays': WHATEVER THE INPUT: true; the input reads as it did. -/
def bufferPlaysSpec : ChangeSpec := { name := "bufferPlays", fn := fun _ => fun
  | [d1, d2, d3] => { results := [.lit (.bool true)], args := [d1, d2, d3] }
  | _ => none }
def bufferPlaysRow : OpenClaim := { program := "ytpblhedmfeddbaa", sum := "2d946e2bc529abcac37849caacaced7972697ac413688a8d3a08eeec081bdee7", func := "ramekin/ramekinlaw17.BufferPlays", spec := "bufferPlays", apart := false }
def BufferPlaysSaid : Prop := bufferPlaysRow.holds Try.pinned (OpenSpec.ofChange bufferPlaysSpec)

/-- ITS FALSE NEIGHBOUR: 'it returns false'. Refute it at one input. -/
def bufferPlaysWrong : ChangeSpec := { name := "bufferPlays", fn := fun _ => fun
  | [d1, d2, d3] => { results := [.lit (.bool false)], args := [d1, d2, d3] }
  | _ => none }
def BufferPlaysWrongFalsely : Prop := bufferPlaysRow.holds Try.pinned (OpenSpec.ofChange bufferPlaysWrong)

/-- 'ramekinlaw14.LiveCounts': WHATEVER THE INPUT: true; the input reads as it did. -/
def liveCountsSpec : ChangeSpec := { name := "liveCounts", fn := fun _ => fun
  | [d1, d2] => { results := [.lit (.bool true)], args := [d1, d2] }
  | _ => none }
def liveCountsRow : OpenClaim := { program := "ytpblhedmfeddbaa", sum := "2d946e2bc529abcac37849caacaced7972697ac413688a8d3a08eeec081bdee7", func := "ramekin/ramekinlaw14.LiveCounts", spec := "liveCounts", unfollowed := true, recurses := true, apart := false }
def LiveCountsSaid : Prop := liveCountsRow.holds Try.pinned (OpenSpec.ofChange liveCountsSpec)

/-- ITS FALSE NEIGHBOUR: 'it returns false'. Refute it at one input. -/
def liveCountsWrong : ChangeSpec := { name := "liveCounts", fn := fun _ => fun
  | [d1, d2] => { results := [.lit (.bool false)], args := [d1, d2] }
  | _ => none }
def LiveCountsWrongFalsely : Prop := liveCountsRow.holds Try.pinned (OpenSpec.ofChange liveCountsWrong)

/-- 'ramekinlaw14.LiveLess': WHATEVER THE INPUT: true; the input reads as it did. -/
def liveLessSpec : ChangeSpec := { name := "liveLess", fn := fun _ => fun
  | [d1, d2] => { results := [.lit (.bool true)], args := [d1, d2] }
  | _ => none }
def liveLessRow : OpenClaim := { program := "ytpblhedmfeddbaa", sum := "2d946e2bc529abcac37849caacaced7972697ac413688a8d3a08eeec081bdee7", func := "ramekin/ramekinlaw14.LiveLess", spec := "liveLess", unfollowed := true, recurses := true, apart := false }
def LiveLessSaid : Prop := liveLessRow.holds Try.pinned (OpenSpec.ofChange liveLessSpec)

/-- ITS FALSE NEIGHBOUR: 'it returns false'. Refute it at one input. -/
def liveLessWrong : ChangeSpec := { name := "liveLess", fn := fun _ => fun
  | [d1, d2] => { results := [.lit (.bool false)], args := [d1, d2] }
  | _ => none }
def LiveLessWrongFalsely : Prop := liveLessRow.holds Try.pinned (OpenSpec.ofChange liveLessWrong)

/-- 'ramekinlaw14.LiveTrims': WHATEVER THE INPUT: true; the input reads as it did. -/
def liveTrimsSpec : ChangeSpec := { name := "liveTrims", fn := fun _ => fun
  | [d1, d2] => { results := [.lit (.bool true)], args := [d1, d2] }
  | _ => none }
def liveTrimsRow : OpenClaim := { program := "ytpblhedmfeddbaa", sum := "2d946e2bc529abcac37849caacaced7972697ac413688a8d3a08eeec081bdee7", func := "ramekin/ramekinlaw14.LiveTrims", spec := "liveTrims", unfollowed := true, recurses := true, apart := false }
def LiveTrimsSaid : Prop := liveTrimsRow.holds Try.pinned (OpenSpec.ofChange liveTrimsSpec)

/-- ITS FALSE NEIGHBOUR: 'it returns false'. Refute it at one input. -/
def liveTrimsWrong : ChangeSpec := { name := "liveTrims", fn := fun _ => fun
  | [d1, d2] => { results := [.lit (.bool false)], args := [d1, d2] }
  | _ => none }
def LiveTrimsWrongFalsely : Prop := liveTrimsRow.holds Try.pinned (OpenSpec.ofChange liveTrimsWrong)

/- THE SECOND FORM. 'bulk': how many values and letters a reading holds, each counted each time it is reached (what is shared counts as often as it is met; a slice's spare places count too). A statement '..UptoSaid' is the law's where the arguments, and the package variables that the reading takes, are together of bulk at most 1048576: NARROWER than '..Said'. Prove '..Said' where nothing that the law and all that it calls make is longer than what came in: it says more and counts as full. Else prove '..UptoSaid'. A law counts once. -/
mutual
def uptoBulk {H : Type} : DataW H → Nat
  | .lit (.string bytes) => bytes.length + 1
  | .lit _ => 1
  | .nil => 1
  | .ptr d => uptoBulk d + 1
  | .slice elems spare => uptoBulkAll elems + uptoBulkAll spare + 1
  | .agg parts => uptoBulkAll parts + 1
  | .iface _ d => uptoBulk d + 1
  | .map entries => uptoBulkEntries entries + 1
  | .held _ => 1
def uptoBulkAll {H : Type} : List (DataW H) → Nat
  | [] => 0
  | d :: r => uptoBulk d + uptoBulkAll r
def uptoBulkEntries {H : Type} : List (Lit × DataW H) → Nat
  | [] => 0
  | x :: r => uptoBulkEntry x + uptoBulkEntries r
def uptoBulkEntry {H : Type} : Lit × DataW H → Nat
  | (.string bytes, d) => bytes.length + uptoBulk d + 1
  | (_, d) => uptoBulk d + 1
 end
def uptoSmall : (H : Type) → List (DataW H) → Bool := fun _ ds => decide (uptoBulkAll ds ≤ 1048576)
def OpenSpec.upto (s : _root_.Go.ChangeSpec) : _root_.Go.OpenSpec := { _root_.Go.OpenSpec.ofChange s with cond := some uptoSmall }

/-- 'ramekinlaw17.BufferFinds', WHERE WHAT IT READS IS OF BULK AT MOST 1048576: true; the input reads as it did. -/
def bufferFindsUptoRow : OpenClaim := { program := "ytpblhedmfeddbaa", sum := "2d946e2bc529abcac37849caacaced7972697ac413688a8d3a08eeec081bdee7", func := "ramekin/ramekinlaw17.BufferFinds", spec := "bufferFinds", apart := false, narrowed := true }
def BufferFindsUptoSaid : Prop := bufferFindsUptoRow.holds Try.pinned (OpenSpec.upto bufferFindsSpec)

/-- 'ramekinlaw17.BufferOrder', WHERE WHAT IT READS IS OF BULK AT MOST 1048576: true; the input reads as it did. -/
def bufferOrderUptoRow : OpenClaim := { program := "ytpblhedmfeddbaa", sum := "2d946e2bc529abcac37849caacaced7972697ac413688a8d3a08eeec081bdee7", func := "ramekin/ramekinlaw17.BufferOrder", spec := "bufferOrder", apart := false, narrowed := true }
def BufferOrderUptoSaid : Prop := bufferOrderUptoRow.holds Try.pinned (OpenSpec.upto bufferOrderSpec)

/-- 'ramekinlaw17.BufferTakes', WHERE WHAT IT READS IS OF BULK AT MOST 1048576: true; the input reads as it did. -/
def bufferTakesUptoRow : OpenClaim := { program := "ytpblhedmfeddbaa", sum := "2d946e2bc529abcac37849caacaced7972697ac413688a8d3a08eeec081bdee7", func := "ramekin/ramekinlaw17.BufferTakes", spec := "bufferTakes", apart := false, narrowed := true }
def BufferTakesUptoSaid : Prop := bufferTakesUptoRow.holds Try.pinned (OpenSpec.upto bufferTakesSpec)

/-- 'ramekinlaw17.BufferPlays', WHERE WHAT IT READS IS OF BULK AT MOST 1048576: true; the input reads as it did. -/
def bufferPlaysUptoRow : OpenClaim := { program := "ytpblhedmfeddbaa", sum := "2d946e2bc529abcac37849caacaced7972697ac413688a8d3a08eeec081bdee7", func := "ramekin/ramekinlaw17.BufferPlays", spec := "bufferPlays", apart := false, narrowed := true }
def BufferPlaysUptoSaid : Prop := bufferPlaysUptoRow.holds Try.pinned (OpenSpec.upto bufferPlaysSpec)

/-- 'ramekinlaw14.LiveCounts', WHERE WHAT IT READS IS OF BULK AT MOST 1048576: true; the input reads as it did. -/
def liveCountsUptoRow : OpenClaim := { program := "ytpblhedmfeddbaa", sum := "2d946e2bc529abcac37849caacaced7972697ac413688a8d3a08eeec081bdee7", func := "ramekin/ramekinlaw14.LiveCounts", spec := "liveCounts", unfollowed := true, recurses := true, apart := false, narrowed := true }
def LiveCountsUptoSaid : Prop := liveCountsUptoRow.holds Try.pinned (OpenSpec.upto liveCountsSpec)

/-- 'ramekinlaw14.LiveLess', WHERE WHAT IT READS IS OF BULK AT MOST 1048576: true; the input reads as it did. -/
def liveLessUptoRow : OpenClaim := { program := "ytpblhedmfeddbaa", sum := "2d946e2bc529abcac37849caacaced7972697ac413688a8d3a08eeec081bdee7", func := "ramekin/ramekinlaw14.LiveLess", spec := "liveLess", unfollowed := true, recurses := true, apart := false, narrowed := true }
def LiveLessUptoSaid : Prop := liveLessUptoRow.holds Try.pinned (OpenSpec.upto liveLessSpec)

/-- 'ramekinlaw14.LiveTrims', WHERE WHAT IT READS IS OF BULK AT MOST 1048576: true; the input reads as it did. -/
def liveTrimsUptoRow : OpenClaim := { program := "ytpblhedmfeddbaa", sum := "2d946e2bc529abcac37849caacaced7972697ac413688a8d3a08eeec081bdee7", func := "ramekin/ramekinlaw14.LiveTrims", spec := "liveTrims", unfollowed := true, recurses := true, apart := false, narrowed := true }
def LiveTrimsUptoSaid : Prop := liveTrimsUptoRow.holds Try.pinned (OpenSpec.upto liveTrimsSpec)

end Rows
end Go.Proofs.Ytpblhedmfeddbaa
