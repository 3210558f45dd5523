/-
  What a function with a number of rounds answers in the end.
-/
import Derived.Test.YtibileffpgnjhaaWWords
namespace Go.Proofs.Ytibileffpgnjhaa.Lim
open Go.RowKit Go.Proofs.YtibileffpgnjhaaW.PrintWords
noncomputable def lim {α : Type} (g : Nat → Option α) : Option α := open Classical in if h : ∃ r, ∃ k, g k = some r then some (Classical.choose h) else none
theorem lim_some {α : Type} {g : Nat → Option α} {r : α} (h : lim g = some r) : ∃ k, g k = some r := by
  unfold lim at h
  split at h
  · rename_i hc
    have := Classical.choose_spec hc
    simp only [Option.some.injEq] at h
    rw [h] at this
    exact this
  · cases h
theorem lim_ev {α : Type} {g : Nat → Option α} {r : α} (hm : ∀ k, LeO (g k) (g (k + 1))) (h : Ev g r) : lim g = some r := by
  obtain ⟨K, hK⟩ := h
  have hc : ∃ r, ∃ k, g k = some r := ⟨r, K, hK K (Nat.le_refl _)⟩
  unfold lim
  rw [dif_pos hc]
  obtain ⟨k, hk⟩ := Classical.choose_spec hc
  have := at_rounds hm (Nat.le_max_left k K) hk
  rw [hK _ (Nat.le_max_right k K)] at this
  exact this.symm
theorem below_of_drewN {B : Nat} {w w' : World} (h : Drawn0 w w') : Below B w w' := by
  obtain ⟨nd, rfl⟩ := h
  exact pw_below_drewN (Below.refl _ _) nd
end Go.Proofs.Ytibileffpgnjhaa.Lim
