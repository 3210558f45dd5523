/-
  Parts of a proof, laid together by a program of mine (pack.py): Px.
-/
import Derived.Test.YtodbmgafejclmaaZD36
namespace Go.Proofs.Ytodbmgafejclmaa.Base
open Go.RowKit Go.Proofs.YtodbmgafejclmaaW.PrintWords
open Go.Proofs.Ytodbmgafejclmaa.Fld Go.Proofs.Ytodbmgafejclmaa.Pl
set_option linter.unusedSimpArgs false
set_option linter.unusedVariables false
theorem sum_len (L : List (List Int)) (n : Nat) : (sumP L n).length = n ∧ (sumQ L n).length = n := by simp [sumP, sumQ]
end Go.Proofs.Ytodbmgafejclmaa.Base
