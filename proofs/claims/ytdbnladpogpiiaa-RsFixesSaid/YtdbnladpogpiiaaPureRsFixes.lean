/-
  RsFixes, plainly: its walk answers true wherever it has an answer; here, that it has one for every input.
-/
import Derived.Test.YtdbnladpogpiiaaPRxx1
namespace Go.Proofs.Ytdbnladpogpiiaa.Pure
open Go.RowKit Go.Proofs.Ytdbnladpogpiiaa.PRx Go.Proofs.YtdbnladpogpiiaaW.PrintWords Go.Proofs.YtdbnladpogpiiaaW.PrintLast
theorem RsFixes : ramekinlaw5_RsFixes.Pure := by
  intro l0 a1 a2 l3 l4 h0 _ _ _ _ h3 _ _ _ _ hw
  have e : maxLen = 9223372036854775807 := rfl
  have hb : ∀ x ∈ l4, Fld.Byt x := fun x hx => by
    have h := hw x hx
    have h2 : 0 ≤ x ∧ x ≤ 255 := by simpa [Lit.wf, IntKind.min, IntKind.max, IntKind.signed, IntKind.bits] using h
    exact ⟨h2.1, by omega⟩
  unfold ramekinlaw5_RsFixes.f
  rw [if_pos ⟨by omega, by omega, hb⟩]
end Go.Proofs.Ytdbnladpogpiiaa.Pure
