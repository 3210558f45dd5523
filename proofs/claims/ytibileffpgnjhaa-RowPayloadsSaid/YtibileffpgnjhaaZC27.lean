/-
  Parts of a proof, laid together by a program of mine (pack.py): Re3.
-/
import Derived.Test.YtibileffpgnjhaaZC26
namespace Go.Proofs.Ytibileffpgnjhaa.Base
open Go.RowKit Go.Proofs.YtibileffpgnjhaaW.PrintWords Go.Proofs.YtibileffpgnjhaaW.PrintLast
set_option linter.unusedSimpArgs false
set_option linter.unusedVariables false
attribute [local go_sem] Ent.arr0 Ent.arr1 Ent.arr2 Ent.set1 Ent.set2 Ent.arr_size Ent.okW Ent.lit run_ldV_ent run_stV_ent ldR_some stR_true rd_new_whole rd_alloc canW_new canW_alloc wr_new wr_alloc rd_drew rd_drewN canW_drew canW_drewN run_bsS_ent run_bsS_ent0 run_eqI_ent rd_setCell rd_setCell_same canW_setCell' Option.map_some cell_wr_other rd_wr_same rd_wr_other
attribute [local go_sem ↓] ldV_ent stV_ent bsS_ent eqI_ent
attribute [local go_sem] Ent.arr0g Ent.arr1g Ent.arr2g run_ldV_dat rd_dat run_eqI_dat dat_lit
attribute [local go_sem ↓] ldV_dat eqI_dat
attribute [local go_sem] run_bdE4 run_bdE3 run_bdE1 run_bdE0
attribute [local go_sem ↓] build_ent
attribute [local go_sem] wide_fn' wide_depth' Oper.semAt_some
set_option maxRecDepth 100000 in
set_option maxHeartbeats 4000000 in
theorem encode_bad2 (d s u a : Int) (m : Nat) (A : Option Addr) (c : Nat) (es : List Ent) (w : World) (hd : 6 ≤ d ∧ d ≤ 8) (hs : 1 ≤ s ∧ s ≤ 1099511627776) (hu : 0 ≤ u ∧ u ≤ 255) (ha : 0 ≤ a ∧ a ≤ 255) (hl : (es.length : Int) ≤ d - 2) (hf : FirstBad es m) (hm : m < es.length) (hs0 : Sl w 0 w.heap.size 19 A (es.map Ent.arr)) :
    Calls Try.prog 12 #[.int .i64 d, .int .i64 s, .int .i64 u, .int .i64 a, .slice A es.length c] w fun x w' => x = .returned (.tuple #[.slice none 0 0, .int .i64 1]) ∧ Below w.heap.size w w' := by
  have hl2 : es.length ≤ 1000000 := by omega
  have hcb := fun (W : World) (h : Sl W 0 W.heap.size 19 A (es.map Ent.arr)) => contains_bad A c m es W hl2 hf h true (by rw [decide_eq_true hm])
  replace hcb := hide hcb
  clear hf hm
  go_enter Try.func12, Try.ntmps12
  go_wp2_with (first | (go_at_call 23; (with_reducible refine (dies_y _ _ (by omega)).mono ?_); rintro e w1 ⟨rfl, rfl⟩) | (go_at_call 24; (with_reducible refine (place_y _ _ (by omega)).mono ?_); rintro e w1 ⟨rfl, rfl⟩))
  obtain ⟨W0, hW⟩ : ∃ W0, ((w.alloc (Obj.cells #[Value.int .i64 s] 3)).alloc (Obj.cells #[Value.int .i64 u] 3)).alloc (Obj.cells #[Value.int .i64 a] 3) = W0 := ⟨_, rfl⟩
  rw [hW]
  have b0 : Below w.heap.size w W0 := by rw [← hW]; exact (((Below.refl _ _).alloc (Nat.le_refl _) _).alloc (by simp) _).alloc (by simp; omega) _
  clear hW
  refine ((unhide hcb) W0 ((hs0.below b0).more b0.size)).mono ?_
  rintro e w1 ⟨rfl, hb1⟩
  have hbb : Below w.heap.size w w1 := b0.trans (hb1.mono b0.size)
  go_wp2_with fail
  go_ret2
  exact ⟨rfl, hbb⟩
end Go.Proofs.Ytibileffpgnjhaa.Base
