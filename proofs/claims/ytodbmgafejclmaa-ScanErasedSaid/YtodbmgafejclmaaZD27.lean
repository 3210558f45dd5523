/-
  Parts of a proof, laid together by a program of mine (pack.py): Ir.
-/
import Derived.OrdersIn
import Derived.Test.YtodbmgafejclmaaZD26
namespace Go.Proofs.Ytodbmgafejclmaa.Base
open Go.RowKit Go.Proofs.YtodbmgafejclmaaW.PrintLast
set_option linter.unusedVariables false
set_option linter.unusedSimpArgs false
section
variable {P : Program} {ops : Array Oper} {Q : Exit → Act → World → Prop} {md : Region.Mode} {r : Nat}
theorem callsIn_round {n : Nat} {f : FuncId} {args : Array Value} {w : World} {R : Ending → World → Prop} (h : Calls P f args w R) : CallsIn (Fence.wide.inRound r) n P f args w R :=
  ((callsIn_wide (n := n)).2 h : CallsIn Fence.wide n P f args w R)
variable {S : World → Prop} {ds : List Nat}
end
end Go.Proofs.Ytodbmgafejclmaa.Base
