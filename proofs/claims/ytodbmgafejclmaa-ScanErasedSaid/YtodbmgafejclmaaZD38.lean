/-
  Parts of a proof, laid together by a program of mine (pack.py): Rl.
-/
import Derived.Test.YtodbmgafejclmaaZD37
namespace Go.Proofs.Ytodbmgafejclmaa.Base
open Go.RowKit Go.Maps Go.Proofs.YtodbmgafejclmaaW.PrintWords Go.Proofs.YtodbmgafejclmaaW.PrintLast
open Go.Proofs.Ytodbmgafejclmaa.Fld Go.Proofs.Ytodbmgafejclmaa.Pl
set_option linter.unusedSimpArgs false
set_option linter.unusedVariables false
theorem goodE_ok {e : Ent} (h : e.Wf) : OkE (goodE e) := by
  have h1 := Int.emod_nonneg e.k (b := 4) (by omega)
  have h2 := Int.emod_lt_of_pos e.k (b := 4) (by omega)
  have h3 := Int.emod_nonneg e.l (b := 100) (by omega)
  have h4 := Int.emod_lt_of_pos e.l (b := 100) (by omega)
  have h5 := Int.emod_nonneg e.s (b := 1000) (by omega)
  have h6 := Int.emod_lt_of_pos e.s (b := 1000) (by omega)
  unfold goodE
  split
  · exact ⟨by simp, by simp, by simp; omega, fun h => absurd rfl h⟩
  · split
    · exact ⟨by simp, by simp, by simp; omega, fun _ _ => rfl⟩
    · refine ⟨h1, by simp; omega, ?_, fun _ _ => rfl⟩
      rw [if_neg (by simp; omega)]
      exact ⟨rfl, rfl⟩
theorem goodE_wf {e : Ent} (h : e.Wf) : (goodE e).Wf := by
  have h1 := Int.emod_nonneg e.k (b := 4) (by omega)
  have h2 := Int.emod_lt_of_pos e.k (b := 4) (by omega)
  have h3 := Int.emod_nonneg e.l (b := 100) (by omega)
  have h4 := Int.emod_lt_of_pos e.l (b := 100) (by omega)
  have h5 := Int.emod_nonneg e.s (b := 1000) (by omega)
  have h6 := Int.emod_lt_of_pos e.s (b := 1000) (by omega)
  have hz : ∀ i : Fin 16, 0 ≤ (fun _ : Fin 16 => (0 : Int)) i ∧ (fun _ : Fin 16 => (0 : Int)) i < 256 := fun i => ⟨by simp, by simp⟩
  unfold goodE
  split
  · exact ⟨⟨by simp, by simp⟩, ⟨by simp; omega, by simp; omega⟩, ⟨by simp; omega, by simp; omega⟩, h.2.2.2⟩
  · split
    · exact ⟨⟨by simp, by simp⟩, ⟨by simp; omega, by simp; omega⟩, ⟨by simp; omega, by simp; omega⟩, hz⟩
    · exact ⟨⟨by simp; omega, by simp; omega⟩, ⟨by simp, by simp⟩, ⟨by simp, by simp⟩, hz⟩
def OutR (w : World) (v : Value) (L : List (List Int)) : Prop := ∃ base T, Rws w base v T ∧ T.map (·.2.2) = L ∧ T.length ≤ 1000
theorem OutR.below {w w' : World} {v : Value} {L : List (List Int)} (h : OutR w v L) (hb : Below w.heap.size w w') : OutR w' v L := by
  obtain ⟨base, T, h1, h2, h3⟩ := h
  exact ⟨base, T, h1.below hb, h2, h3⟩
end Go.Proofs.Ytodbmgafejclmaa.Base
