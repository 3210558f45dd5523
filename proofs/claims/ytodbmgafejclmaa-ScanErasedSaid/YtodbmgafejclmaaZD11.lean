/-
  Parts of a proof, laid together by a program of mine (pack.py): WInv.
-/
import Derived.Test.YtodbmgafejclmaaZD5
import Derived.Test.YtodbmgafejclmaaZD0
import Derived.Test.YtodbmgafejclmaaZD1
namespace Go.Proofs.YtodbmgafejclmaaW.PrintLast
/-- Number i is listed too. -/
def up (b : Nat → Bool) (i : Nat) : Nat → Bool := fun j => if j = i then true else b j
end Go.Proofs.YtodbmgafejclmaaW.PrintLast
