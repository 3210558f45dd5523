/-
  Parts of a proof, laid together by a program of mine (pack.py): Ts.
-/
import Derived.Test.YtodbmgafejclmaaZD44
namespace Go.Proofs.Ytodbmgafejclmaa.Base
open Go.RowKit Go.Maps Go.Proofs.YtodbmgafejclmaaW.PrintWords Go.Proofs.YtodbmgafejclmaaW.PrintLast
set_option linter.unusedSimpArgs false
set_option linter.unusedVariables false
attribute [local go_sem] fld_super0 fld_super1
theorem pages_set {ps : List Pg} {L : List (List Int)} {P : List Int} (h : ps.map qOf = pagesQ L P) (j : Nat) : (ps.set j badPg).map qOf = pagesQ L (P ++ [(j : Int)]) := by
  rw [List.map_set, h]
  unfold pagesQ
  rw [setQ_snoc, Int.toNat_natCast]
  rfl
theorem ok_one {m j : Nat} (h : j < m) : ∃ lim, Pc.Ok lim m [(j : Int)] := ⟨1, ⟨Nat.le_refl _, ⟨fun x hx => by rw [List.mem_singleton.1 hx]; omega, List.nodup_cons.2 ⟨List.not_mem_nil, List.nodup_nil⟩⟩⟩⟩
theorem ok_two {m i j : Nat} (h : i < m) (h2 : j < m) (hne : i ≠ j) : ∃ lim, Pc.Ok lim m [(i : Int), (j : Int)] := ⟨2, ⟨Nat.le_refl _, ⟨fun x hx => by
  rcases List.mem_cons.1 hx with h | h
  · rw [h]; omega
  · rw [List.mem_singleton.1 h]; omega, List.nodup_cons.2 ⟨fun e => by have := List.mem_singleton.1 e; omega, List.nodup_cons.2 ⟨List.not_mem_nil, List.nodup_nil⟩⟩⟩⟩⟩
end Go.Proofs.Ytodbmgafejclmaa.Base
