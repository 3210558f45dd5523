/-
  Parts of a proof, laid together by a program of mine (pack.py): WInv.
-/
import Derived.Test.YtibileffpgnjhaaZA5
import Derived.Test.YtibileffpgnjhaaZA0
import Derived.Test.YtibileffpgnjhaaZA1
namespace Go.Proofs.YtibileffpgnjhaaW.PrintLast
/-- Number i is listed too. -/
def up (b : Nat → Bool) (i : Nat) : Nat → Bool := fun j => if j = i then true else b j
end Go.Proofs.YtibileffpgnjhaaW.PrintLast
