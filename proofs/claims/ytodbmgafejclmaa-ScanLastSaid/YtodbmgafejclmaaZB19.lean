/-
  Parts of a proof, laid together by a program of mine (pack.py): Rj.
-/
import Derived.Deep.DeepCutAuto
import Derived.Test.YtodbmgafejclmaaZB18
namespace Go.Proofs.Ytodbmgafejclmaa.Base
open Go.RowKit Go.Proofs.YtodbmgafejclmaaW.PrintWords Go.Proofs.YtodbmgafejclmaaW.PrintLast
set_option linter.unusedSimpArgs false
set_option linter.unusedVariables false
attribute [local go_sem] Ent.arr0 Ent.arr1 Ent.arr2 Ent.set1 Ent.set2 Ent.arr_size Ent.okW Ent.lit run_ldV_ent run_stV_ent ldR_some stR_true rd_new_whole rd_alloc canW_new canW_alloc wr_new wr_alloc rd_drew rd_drewN canW_drew canW_drewN run_bsS_ent run_bsS_ent0 run_eqI_ent rd_setCell rd_setCell_same canW_setCell' Option.map_some cell_wr_other rd_wr_same rd_wr_other
attribute [local go_sem ↓] ldV_ent stV_ent bsS_ent eqI_ent
attribute [local go_sem] Ent.arr0g Ent.arr1g Ent.arr2g run_ldV_dat rd_dat run_eqI_dat dat_lit
attribute [local go_sem ↓] ldV_dat eqI_dat
attribute [local go_sem] run_bdE4 run_bdE3 run_bdE1 run_bdE0
attribute [local go_sem ↓] build_ent
set_option maxRecDepth 100000 in
set_option maxHeartbeats 4000000 in
theorem rencode_bad1 (d s u a : Int) (A : Option Addr) (l c : Nat) (w : World) (hdd : I64 d) (hl1 : l ≤ 1000000) (h : ¬ (6 ≤ d ∧ d ≤ 8 ∧ 1 ≤ s ∧ s ≤ 1099511627776 ∧ 0 ≤ u ∧ u ≤ 255 ∧ 0 ≤ a ∧ a ≤ 255 ∧ (l : Int) ≤ d - 2)) :
    Calls Try.prog 17 #[.int .i64 d, .int .i64 s, .int .i64 u, .int .i64 a, .slice A l c] w fun x w' => x = .returned (.tuple #[.slice none 0 0, .int .i64 1]) ∧ Below w.heap.size w w' := by
  unfold I64 at hdd
  rcases (by omega : d < 6 ∨ 8 < d ∨ ((6 ≤ d ∧ d ≤ 8) ∧ (s < 1 ∨ 1099511627776 < s ∨ ((1 ≤ s ∧ s ≤ 1099511627776) ∧ (u < 0 ∨ 255 < u ∨ ((0 ≤ u ∧ u ≤ 255) ∧ (a < 0 ∨ 255 < a ∨ ((0 ≤ a ∧ a ≤ 255) ∧ d - 2 < (l : Int))))))))) with h1 | h1 | ⟨h1, h2 | h2 | ⟨h2, h3 | h3 | ⟨h3, h4 | h4 | ⟨h4, h5⟩⟩⟩⟩
  all_goals
    clear h
    go_enter Try.func17, Try.ntmps17
    go_wp2_with fail
  all_goals
    go_ret2
    exact ⟨rfl, Below.refl _ _⟩
set_option maxRecDepth 100000 in
theorem dies_any (n : Int) (w : World) : Calls Try.prog 33 #[.int .i64 n] w fun e w' => e = .returned (.bool (decide (6 ≤ n) && decide (n ≤ 8))) ∧ w = w' := by
  by_cases h1 : 6 ≤ n
  · by_cases h2 : n ≤ 8
    · go_enter Try.func33, Try.ntmps33
      go_wp2_with fail
      go_ret
      exact ⟨by simp [h1, h2], rfl⟩
    · go_enter Try.func33, Try.ntmps33
      go_wp2_with fail
      go_ret
      exact ⟨by simp [h1, h2], rfl⟩
  · have hd : Hid (decide (6 ≤ n) = false) := hide (decide_eq_false h1)
    go_enter Try.func33, Try.ntmps33
    go_wp2_with fail
    go_ret
    exact ⟨by rw [unhide hd]; rfl, rfl⟩
/-- m: the first slot that may not be, or as many as there are -/
def FirstBad (es : List Ent) (m : Nat) : Prop := m ≤ es.length ∧ (∀ (i : Nat) (h : i < es.length), i < m → OkE es[i]) ∧ (∀ h : m < es.length, ¬ OkE es[m])
theorem firstBad : ∀ (es : List Ent), ∃ m, FirstBad es m := by
  intro es
  by_cases h : ∃ k, ∃ hk : k < es.length, ¬ OkE es[k]
  · let P : Nat → Prop := fun k => ∃ hk : k < es.length, ¬ OkE es[k]
    have hex : ∃ k, P k := h
    suffices ∀ n, (∃ k, k ≤ n ∧ P k) → ∃ m, P m ∧ ∀ i, i < m → ¬ P i by
      obtain ⟨k, hk⟩ := hex
      obtain ⟨m, ⟨hm, hb⟩, hmin⟩ := this k ⟨k, Nat.le_refl _, hk⟩
      refine ⟨m, Nat.le_of_lt hm, fun i hi him => ?_, fun _ => hb⟩
      have := hmin i him
      exact Classical.byContradiction fun hc => this ⟨hi, hc⟩
    intro n
    induction n with
    | zero =>
      rintro ⟨k, hk, hP⟩
      obtain rfl : k = 0 := by omega
      exact ⟨0, hP, fun i hi => by omega⟩
    | succ n ih =>
      rintro ⟨k, hk, hP⟩
      by_cases h2 : ∃ k, k ≤ n ∧ P k
      · exact ih h2
      · refine ⟨k, hP, fun i hi hPi => h2 ⟨i, by omega, hPi⟩⟩
  · refine ⟨es.length, Nat.le_refl _, fun i hi _ => Classical.byContradiction fun hc => h ⟨i, hi, hc⟩, fun hm => absurd hm (Nat.lt_irrefl _)⟩
end Go.Proofs.Ytodbmgafejclmaa.Base
