/-
  Parts of a proof, laid together by a program of mine (pack.py): Bk.
-/
import Derived.Test.YtibileffpgnjhaaZC32
namespace Go.Proofs.Ytibileffpgnjhaa.Base
open Go.RowKit Go.Maps Go.Proofs.YtibileffpgnjhaaW.PrintWords Go.Proofs.YtibileffpgnjhaaW.PrintLast
open Go.Proofs.Ytibileffpgnjhaa.Fld Go.Proofs.Ytibileffpgnjhaa.Pl Go.Proofs.Ytibileffpgnjhaa.Kp Go.Proofs.Ytibileffpgnjhaa.Fw Go.Proofs.Ytibileffpgnjhaa.Cw Go.Proofs.Ytibileffpgnjhaa.Cd Go.Proofs.Ytibileffpgnjhaa.Rf
set_option linter.unusedSimpArgs false
set_option linter.unusedVariables false
attribute [local go_sem] Ent.arr0 Ent.arr1 Ent.arr2 Ent.set1 Ent.set2 Ent.arr_size Ent.okW Ent.lit run_ldV_ent run_stV_ent ldR_some stR_true rd_new_whole rd_alloc canW_new canW_alloc wr_new wr_alloc rd_drew rd_drewN canW_drew canW_drewN run_bsS_ent run_bsS_ent0 run_eqI_ent rd_setCell rd_setCell_same canW_setCell' Option.map_some cell_wr_other rd_wr_same rd_wr_other
attribute [local go_sem ↓] ldV_ent stV_ent bsS_ent eqI_ent
attribute [local go_sem] Ent.arr0g Ent.arr1g Ent.arr2g run_ldV_dat rd_dat run_eqI_dat dat_lit
attribute [local go_sem ↓] ldV_dat eqI_dat
attribute [local go_sem] run_bdE4 run_bdE3 run_bdE1 run_bdE0
attribute [local go_sem ↓] build_ent
theorem RC.of_rws {w : World} {base : Nat} {A : Option Addr} {n c : Nat} {T : List Hr} (h : Rws w base (.slice A n c) T) (hm : T.length ≤ 1000000) : n = T.length ∧ n ≤ c ∧ RC w A n (T.map (·.2.2)) := by
  obtain ⟨A0, c0, hv, hc, hC⟩ := h.C hm
  injection hv with e1 e2 e3
  subst e1 e3
  rw [List.length_map] at e2 hc hC
  subst e2
  exact ⟨rfl, hc, hC⟩
theorem okw_good {es es1 : List Ent} {m : Nat} (h : es1 = (es.take m).map goodE) (hwf : ∀ e ∈ es, e.Wf) : (∀ e ∈ es1, e.Wf) ∧ ∀ e ∈ es1, OkE e := by
  refine ⟨fun e he => ?_, fun e he => ?_⟩
  · rw [h] at he; obtain ⟨f, hf, rfl⟩ := List.mem_map.1 he; exact goodE_wf (hwf f (List.mem_of_mem_take hf))
  · rw [h] at he; obtain ⟨f, hf, rfl⟩ := List.mem_map.1 he; exact goodE_ok (hwf f (List.mem_of_mem_take hf))
theorem slots_own (A : Option Addr) (c m n : Nat) (mi : Int) (es es1 : List Ent) (w : World) (hmi : mi = m) (hes : es1 = (es.take m).map goodE) (hm : m ≤ 1000000) (hn0 : n = es.length) (hn : n ≤ c) (hc : c ≤ maxLen) (hwf : ∀ e ∈ es, e.Wf) (hs : Sl w 0 w.heap.size 19 A (es.map Ent.arr)) :
    Calls Try.prog 13 #[.slice A n c, .int .i64 mi] w fun x w' =>
      ∃ A' c', x = .returned (.slice A' es1.length c') ∧ es1.length ≤ c' ∧ Ow w' w.heap.size 44 19 (.slice A' es1.length c') (es1.map Ent.arr) ∧ Below w.heap.size w w' := by
  subst hmi hn0
  have hl : es1.length = min es.length m := by rw [hes, List.length_map, List.length_take]; omega
  refine (slots_any A c m es w hm hn hc hwf hs).mono ?_
  rintro x w' ⟨⟨A', c', rfl, hc', ho⟩, hb⟩
  rw [← hl] at hc' ho ⊢
  rw [← hes] at ho
  exact ⟨A', c', rfl, hc', ho, hb⟩
end Go.Proofs.Ytibileffpgnjhaa.Base
