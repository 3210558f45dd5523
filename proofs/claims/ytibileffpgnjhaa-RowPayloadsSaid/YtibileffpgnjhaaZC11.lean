/-
  Parts of a proof, laid together by a program of mine (pack.py): WInv.
-/
import Derived.Test.YtibileffpgnjhaaZC5
import Derived.Test.YtibileffpgnjhaaZC0
import Derived.Test.YtibileffpgnjhaaZC1
namespace Go.Proofs.YtibileffpgnjhaaW.PrintLast
/-- Number i is listed too. -/
def up (b : Nat → Bool) (i : Nat) : Nat → Bool := fun j => if j = i then true else b j
end Go.Proofs.YtibileffpgnjhaaW.PrintLast
