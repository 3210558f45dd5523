/-
  Parts of a proof, laid together by a program of mine (pack.py): Re2.
-/
import Derived.Test.YtibileffpgnjhaaZC25
namespace Go.Proofs.Ytibileffpgnjhaa.Base
open Go.RowKit Go.Proofs.YtibileffpgnjhaaW.PrintWords Go.Proofs.YtibileffpgnjhaaW.PrintLast
set_option linter.unusedSimpArgs false
set_option linter.unusedVariables false
attribute [local go_sem] Ent.arr0 Ent.arr1 Ent.arr2 Ent.set1 Ent.set2 Ent.arr_size Ent.okW Ent.lit run_ldV_ent run_stV_ent ldR_some stR_true rd_new_whole rd_alloc canW_new canW_alloc wr_new wr_alloc rd_drew rd_drewN canW_drew canW_drewN run_bsS_ent run_bsS_ent0 run_eqI_ent rd_setCell rd_setCell_same canW_setCell' Option.map_some cell_wr_other rd_wr_same rd_wr_other
attribute [local go_sem ↓] ldV_ent stV_ent bsS_ent eqI_ent
attribute [local go_sem] Ent.arr0g Ent.arr1g Ent.arr2g run_ldV_dat rd_dat run_eqI_dat dat_lit
attribute [local go_sem ↓] ldV_dat eqI_dat
attribute [local go_sem] run_bdE4 run_bdE3 run_bdE1 run_bdE0
attribute [local go_sem ↓] build_ent
attribute [local go_sem] wide_fn' wide_depth' Oper.semAt_some
theorem dies_f (n : Int) (w : World) (h : ¬ (6 ≤ n ∧ n ≤ 8)) : Calls Try.prog 23 #[.int .i64 n] w fun e w' => e = .returned (.bool false) ∧ w = w' := by
  have := dies_any n w
  rw [show (decide (6 ≤ n) && decide (n ≤ 8)) = false from by rw [Bool.and_eq_false_iff]; simp only [decide_eq_false_iff_not]; omega] at this
  exact this
theorem place_f (n : Int) (w : World) (h : ¬ (0 ≤ n ∧ n ≤ 255)) : Calls Try.prog 24 #[.int .i64 n] w fun e w' => e = .returned (.bool false) ∧ w = w' := by
  have := place_any n w
  rw [show (decide (0 ≤ n) && decide (n ≤ 255)) = false from by rw [Bool.and_eq_false_iff]; simp only [decide_eq_false_iff_not]; omega] at this
  exact this
theorem dies_y (n : Int) (w : World) (h : 6 ≤ n ∧ n ≤ 8) : Calls Try.prog 23 #[.int .i64 n] w fun e w' => e = .returned (.bool true) ∧ w = w' := callsIn_wide.1 (dies_t n w h)
theorem place_y (n : Int) (w : World) (h : 0 ≤ n ∧ n ≤ 255) : Calls Try.prog 24 #[.int .i64 n] w fun e w' => e = .returned (.bool true) ∧ w = w' := callsIn_wide.1 (place_t n w h)
set_option maxRecDepth 100000 in
set_option maxHeartbeats 4000000 in
theorem encode_bad1 (d s u a : Int) (A : Option Addr) (l c : Nat) (w : World) (hdd : I64 d) (hl1 : l ≤ 1000000) (h : ¬ (6 ≤ d ∧ d ≤ 8 ∧ 1 ≤ s ∧ s ≤ 1099511627776 ∧ 0 ≤ u ∧ u ≤ 255 ∧ 0 ≤ a ∧ a ≤ 255 ∧ (l : Int) ≤ d - 2)) :
    Calls Try.prog 12 #[.int .i64 d, .int .i64 s, .int .i64 u, .int .i64 a, .slice A l c] w fun x w' => x = .returned (.tuple #[.slice none 0 0, .int .i64 1]) ∧ Below w.heap.size w w' := by
  unfold I64 at hdd
  rcases (by omega : ¬ (6 ≤ d ∧ d ≤ 8) ∨ ((6 ≤ d ∧ d ≤ 8) ∧ (s < 1 ∨ 1099511627776 < s ∨ ((1 ≤ s ∧ s ≤ 1099511627776) ∧ (¬ (0 ≤ u ∧ u ≤ 255) ∨ ((0 ≤ u ∧ u ≤ 255) ∧ (¬ (0 ≤ a ∧ a ≤ 255) ∨ ((0 ≤ a ∧ a ≤ 255) ∧ d - 2 < (l : Int))))))))) with h1 | ⟨h1, h2 | h2 | ⟨h2, h3 | ⟨h3, h4 | ⟨h4, h5⟩⟩⟩⟩
  all_goals
    clear h
    go_enter Try.func12, Try.ntmps12
    go_wp2_with (first | (go_at_call 23; (first | (with_reducible refine (dies_y _ _ (by omega)).mono ?_) | (with_reducible refine (dies_f _ _ (by omega)).mono ?_)); rintro e w1 ⟨rfl, rfl⟩) | (go_at_call 24; (first | (with_reducible refine (place_y _ _ (by omega)).mono ?_) | (with_reducible refine (place_f _ _ (by omega)).mono ?_)); rintro e w1 ⟨rfl, rfl⟩))
  all_goals
    go_ret2
    exact ⟨rfl, (((Below.refl _ _).alloc (Nat.le_refl _) _).alloc (by simp) _).alloc (by simp; omega) _⟩
end Go.Proofs.Ytibileffpgnjhaa.Base
