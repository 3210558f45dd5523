/-
  Parts of a proof, laid together by a program of mine (pack.py): Ps.
-/
import Derived.Laws.OwnMore
import Derived.Test.YtibileffpgnjhaaZC18
namespace Go.Proofs.Ytibileffpgnjhaa.Base
open Go.RowKit Go.Maps Go.Proofs.YtibileffpgnjhaaW.PrintWords Go.Proofs.YtibileffpgnjhaaW.PrintLast
open Go.Proofs.Ytibileffpgnjhaa.Fld Go.Proofs.Ytibileffpgnjhaa.Pl
set_option linter.unusedSimpArgs false
set_option linter.unusedVariables false
def PgsAt (w : World) (ps : List Pg) : Prop := ∀ p ∈ ps, PgOk w p
theorem PgsAt.below {w w' : World} {ps : List Pg} (h : PgsAt w ps) (hb : Below w.heap.size w w') : PgsAt w' ps := fun p hp => (h p hp).below hb
theorem PgsAt.set {w : World} {ps : List Pg} (h : PgsAt w ps) (i : Nat) {p : Pg} (hp : PgOk w p) : PgsAt w (ps.set i p) := fun q hq => by
  rcases List.mem_or_eq_of_mem_set hq with h1 | h1
  · exact h q h1
  · rw [h1]; exact hp
theorem Pg.sized (ps : List Pg) : Sized 2 (ps.map Pg.arr) := fun x hx => by obtain ⟨p, _, rfl⟩ := List.mem_map.1 hx; rfl
theorem Pg.ones (ps : List Pg) : Ones (ps.map Pg.arr) := fun x hx v hv => by
  obtain ⟨p, _, rfl⟩ := List.mem_map.1 hx
  simp only [Pg.arr, List.mem_cons, List.not_mem_nil, or_false] at hv
  rcases hv with rfl | rfl <;> rfl
end Go.Proofs.Ytibileffpgnjhaa.Base
