/-
  Functions of the program as plain Lean functions, each with a proof that its call does what that function says. Written by a program of mine (pr.py), which calls a scratch copy of the kit's print.
-/
import Derived.Test.YtdbnladpogpiiaaProg
import Derived.Below
import Derived.Deep.Draws
import Derived.Deep.AppendLies
import Derived.Maps.AppendAt
import Derived.OwnWalk
import Derived.Laws.BytesArg
import Derived.Laws.MakeOwn
import Derived.Laws.OwnMore
import Derived.Deep.OwnRows
import Derived.Tactics
import Derived.Lib.ConvBytes
import Derived.Laws.Slices
import Derived.WalkKit
import Derived.KernelRfl
import Derived.RowKit3
import Derived.Deep.LoopGhost
import Derived.Deep.QuietTactic
import Derived.BigQuiet
import Derived.WideLaws
import Derived.Deep.DeepCutAuto
import Derived.Deep.CutBlock
import Derived.Deep.RegionHeld3
import Derived.Laws.Rows
import Derived.Lib.AppendStr
import Derived.ArgAppend
import Derived.Laws.IdiomCopy
import Derived.OrdersHeld
import Derived.Laws.BitsLemmas
import Derived.RowKit
import Derived.Test.YtdbnladpogpiiaaWWords
import Derived.Test.YtdbnladpogpiiaaWLast
import Derived.Test.YtdbnladpogpiiaaWTab
import Derived.Test.YtdbnladpogpiiaaWFour
import Derived.Test.YtdbnladpogpiiaaWQPut
import Derived.Test.YtdbnladpogpiiaaWApart
import Derived.Test.YtdbnladpogpiiaaWArr
import Derived.Test.YtdbnladpogpiiaaWZeros
import Derived.Test.YtdbnladpogpiiaaWFoot
import Derived.Test.YtdbnladpogpiiaaWKept
import Derived.Test.YtdbnladpogpiiaaWShare
import Derived.Test.YtdbnladpogpiiaaWN
import Derived.Test.YtdbnladpogpiiaaWFootNe
import Derived.Test.YtdbnladpogpiiaaWAt
import Derived.Test.YtdbnladpogpiiaaWEqStruct
import Derived.Test.YtdbnladpogpiiaaWRepsOne
import Derived.Test.YtdbnladpogpiiaaWInv
import Derived.Test.YtdbnladpogpiiaaWInvWords
import Derived.Test.YtdbnladpogpiiaaWGuard
import Derived.Test.YtdbnladpogpiiaaWNEv
import Derived.Test.YtdbnladpogpiiaaWMore
namespace Go.Proofs.Ytdbnladpogpiiaa.PRt
open Go.RowKit Go.Proofs.YtdbnladpogpiiaaW.PrintWords Go.Proofs.YtdbnladpogpiiaaW.PrintLast Go.Proofs.YtdbnladpogpiiaaW.PrintMore
attribute [local go_sem] max2_int min2_int max_two min_two max_three min_three max_four min_four   -- for this text's walks alone
set_option linter.unusedVariables false
set_option linter.unusedSimpArgs false



def errW : Option Int → Value
  | none => .nilIface
  | some c => .iface 0 (.int .i64 c)
theorem errW_none : errW none = .nilIface := rfl
theorem errW_some (c : Int) : errW (some c) = .iface 0 (.int .i64 c) := rfl

-- the values' own types

end Go.Proofs.Ytdbnladpogpiiaa.PRt
