/-
  Parts of a proof, laid together by a program of mine (pack.py): Lz.
-/
import Derived.Test.YtodbmgafejclmaaZD49
namespace Go.Proofs.Ytodbmgafejclmaa.Base
open Go.RowKit Go.Maps Go.Proofs.YtodbmgafejclmaaW.PrintWords Go.Proofs.YtodbmgafejclmaaW.PrintLast
set_option linter.unusedSimpArgs false
set_option linter.unusedVariables false
attribute [local go_sem] fld_super0 fld_super1
/-- a superblock's rows, copied -/
theorem Pn.copy (w : World) (bp : Nat) (A : Option Addr) (N c : Nat) (T : List PR) (hP : Pn w bp (.slice A N c) T) (hN : N = T.length) (h0 : 0 < N) (hsm : N ≤ 1000) (ty : TypeId) :
    ∃ A' c' w', (Builtin.append_ #[27, 27] ty #[.slice (some ⟨w.heap.size, 0, none⟩) 0 0, .slice A N c]).run Try.prog (w.alloc (.cells #[] 33)) = .ok (.slice A' N c') w' ∧ Pn w' w.heap.size (.slice A' N c') T ∧ N ≤ c' ∧ Below w.heap.size w w' := by
  have hb0 := (Below.refl w.heap.size w).alloc (Nat.le_refl _) (.cells #[] 33)
  obtain ⟨g, rfl, hg1, hg2, _⟩ := hP.some_of h0
  obtain ⟨i0, hi0, hz0, hz1, hz2⟩ := info_parts info_pgs
  obtain ⟨b, o, e1, _, hb2, hcl⟩ := hP.sl.flat_cells (PR.sized T) (by intro h; have := congrArg List.length h; rw [List.length_map] at this; simp at this; subst this; simp at hN; omega)
  injection e1 with e1
  injection e1 with e1 e2 _
  subst e1 e2
  have hown : Ow (w.alloc (.cells #[] 33)) w.heap.size 33 1 (.slice (some ⟨w.heap.size, 0, none⟩) 0 0) [] := Ow.empty w _ _
  obtain ⟨v', w', hrun, h2, h3, _, h5⟩ := run_append_own_at (P := Try.prog) (w.alloc (.cells #[] 33)) w.heap.size 27 ty 33 i0 _ 1 24 Try.underlying27 hi0 hz0 hz1 hz2 rfl (by omega) (.slice (some ⟨w.heap.size, 0, none⟩) 0 0) 0 [] hown ⟨g, 0, none⟩ N c (flat (T.map PR.arr)) (by rw [flat_len (PR.sized T), List.length_map, hN])
    (fun j u hu => by
      have := hcl j u hu
      rw [Addr.add_mid]
      exact (hb0.cell (p := ⟨g, 0 + j, none⟩) hg2).trans this) (PR.ones T).flat_all (by unfold maxLen; omega) (by omega) (by rw [World.size_alloc]; omega)
  rw [List.nil_append, Nat.zero_add] at h2
  have ho' : Ow w' w.heap.size 33 1 v' (T.map PR.arr) := by
    unfold Ow
    rw [List.length_map, ← hN]
    exact h2
  obtain ⟨A', c', hv, hc', _⟩ := ho'.form
  rw [List.length_map, ← hN] at hv hc'
  subst hv
  have hb : Below w.heap.size w w' := below_grown hb0 h3 (by rw [World.size_alloc]; omega) (fun k ek => by simp only [Value.ownBlock, Option.some.injEq] at ek; omega)
  refine ⟨A', c', w', hrun, ⟨ho', fun t ht => ?_⟩, hc', hb⟩
  have h1 := hP.2 t ht
  have hlo := fun k e => (ho'.lt k e).1
  exact ⟨h1.1.below hb, fun a ha => ⟨Nat.lt_of_lt_of_le (h1.2.1 a ha).1 hb.size, fun e => by have := hlo _ e.symm; have := (h1.2.1 a ha).1; omega⟩, fun p hp a ha e => by have := hlo _ e.symm; have := (h1.1.2.2.2.2 p hp).2.2.2.1 a ha; omega⟩
end Go.Proofs.Ytodbmgafejclmaa.Base
