/-
  Parts of a proof, laid together by a program of mine (pack.py): Sk.
-/
import Derived.Lib.Hide
import Derived.Lib.Bytes
import Derived.Test.YtibileffpgnjhaaZC29
namespace Go.Proofs.Ytibileffpgnjhaa.Sk
open Go.RowKit Go.Proofs.YtibileffpgnjhaaW.PrintWords Go.Proofs.YtibileffpgnjhaaW.PrintLast Go.Proofs.YtibileffpgnjhaaW.PrintMore Go.Proofs.Ytibileffpgnjhaa.PRq Go.Proofs.Ytibileffpgnjhaa.Fld
set_option linter.unusedSimpArgs false
set_option linter.unusedVariables false
theorem strOfNums_inj {a b : List Int} (ha : ∀ x ∈ a, 0 ≤ x ∧ x < 256) (hb : ∀ x ∈ b, 0 ≤ x ∧ x < 256) (h : (strOfNums a).toList = (strOfNums b).toList) : a = b := by
  rw [Lib.strOfNums_toList, Lib.strOfNums_toList] at h
  have hl : a.length = b.length := by have := congrArg List.length h; simpa [Lib.bytesOf] using this
  apply List.ext_getElem hl
  intro k h1 h2
  have h3 := congrArg (fun l => l[k]?) h
  simp only [Lib.bytesOf, List.getElem?_map, List.getElem?_eq_getElem h1, List.getElem?_eq_getElem h2, Option.map_some, Option.some.injEq] at h3
  have h4 := congrArg UInt8.toNat h3
  simp only [UInt8.toNat_ofNat'] at h4
  have ha1 := ha _ (List.getElem_mem h1)
  have hb1 := hb _ (List.getElem_mem h2)
  omega
end Go.Proofs.Ytibileffpgnjhaa.Sk
