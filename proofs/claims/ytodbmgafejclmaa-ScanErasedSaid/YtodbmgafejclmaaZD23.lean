/-
  Parts of a proof, laid together by a program of mine (pack.py): Sw.
-/
import Derived.BigQuiet
import Derived.Test.YtodbmgafejclmaaZD22
namespace Go.Proofs.Ytodbmgafejclmaa.Base
open Go.RowKit Go.Proofs.YtodbmgafejclmaaW.PrintWords Go.Proofs.YtodbmgafejclmaaW.PrintLast
set_option linter.unusedSimpArgs false
set_option linter.unusedVariables false
attribute [local go_sem] Ent.arr0 Ent.arr1 Ent.arr2 Ent.set1 Ent.set2 Ent.arr_size Ent.okW Ent.lit run_ldV_ent run_stV_ent ldR_some stR_true rd_new_whole rd_alloc canW_new canW_alloc wr_new wr_alloc rd_drew rd_drewN canW_drew canW_drewN run_bsS_ent run_bsS_ent0 run_eqI_ent rd_setCell rd_setCell_same canW_setCell' Option.map_some cell_wr_other rd_wr_same rd_wr_other
attribute [local go_sem ↓] ldV_ent stV_ent bsS_ent eqI_ent
attribute [local go_sem] Ent.arr0g Ent.arr1g Ent.arr2g run_ldV_dat rd_dat run_eqI_dat dat_lit
attribute [local go_sem ↓] ldV_dat eqI_dat
def sameB (s1 a1 s2 a2 : Int) (es1 es2 : List Ent) : Bool := decide (s1 = s2 ∧ a1 = a2 ∧ es1 = es2)
set_option maxRecDepth 100000 in
set_option maxHeartbeats 2000000 in
theorem samerow_any (s1 a1 s2 a2 : Int) (A1 A2 : Option Addr) (c1 c2 n1 n2 : Nat) (es1 es2 : List Ent) (w : World) (hn1 : n1 = es1.length) (hn2 : n2 = es2.length) (hl : n1 ≤ 1000) (h1 : Sl w 0 w.heap.size 19 A1 (es1.map Ent.arr)) (h2 : Sl w 0 w.heap.size 19 A2 (es2.map Ent.arr)) :
    Calls Try.prog 14 #[.agg #[.int .i64 s1, .int .i64 a1, .slice A1 n1 c1], .agg #[.int .i64 s2, .int .i64 a2, .slice A2 n2 c2]] w fun x w' => x = .returned (.bool (sameB s1 a1 s2 a2 es1 es2)) ∧ Below w.heap.size w w' := by
  have hbW : ∀ o1 o2 : Obj, Below w.heap.size w ((w.alloc o1).alloc o2) := fun o1 o2 => ((Below.refl _ _).alloc (Nat.le_refl _) _).alloc (by simp) _
  by_cases hs : s1 = s2
  · subst hs
    by_cases ha : a1 = a2
    · subst ha
      by_cases hn : n1 = n2
      · subst hn
        replace hn1 := hide hn1
        replace hn2 := hide hn2
        go_enter Try.func14, Try.ntmps14
        go_wp2_with fail
        have hbW2 := hbW (Obj.cells #[.int .i64 s1, .int .i64 a1, .slice A1 n1 c1] 39) (Obj.cells #[.int .i64 s1, .int .i64 a1, .slice A2 n1 c2] 39)
        obtain ⟨W, hW⟩ : ∃ W, (w.alloc (Obj.cells #[.int .i64 s1, .int .i64 a1, .slice A1 n1 c1] 39)).alloc (Obj.cells #[.int .i64 s1, .int .i64 a1, .slice A2 n1 c2] 39) = W := ⟨_, rfl⟩
        have d1 : W.cell? ⟨w.heap.size, 2, none⟩ = some (.slice A1 n1 c1) := by
          have := (Below.heap_alloc (w.alloc (Obj.cells #[.int .i64 s1, .int .i64 a1, .slice A1 n1 c1] 39)) (Obj.cells #[.int .i64 s1, .int .i64 a1, .slice A2 n1 c2] 39) w.heap.size (by simp)).trans (heap_alloc_new _ _)
          rw [hW] at this
          simp [World.cell?, this]
        have d2 : W.cell? ⟨w.heap.size + 1, 2, none⟩ = some (.slice A2 n1 c2) := by
          have := heap_alloc_new (w.alloc (Obj.cells #[.int .i64 s1, .int .i64 a1, .slice A1 n1 c1] 39)) (Obj.cells #[.int .i64 s1, .int .i64 a1, .slice A2 n1 c2] 39)
          rw [hW, World.size_alloc] at this
          simp [World.cell?, this]
        rw [hW] at hbW2 ⊢
        clear hW hbW
        go_loopw [5] (fun s5 wr => ∃ j m : Nat, j ≤ n1 ∧ s5 = .int .i64 j ∧ Hid (es1.take j = es2.take j) ∧ wr = W.drewN m) (fun s5 _ => n1 - (intOf s5).toNat)
        case atStart => exact ⟨0, 0, by omega, rfl, rfl, rfl⟩
        case round =>
          obtain ⟨j, m, hj, rfl, htk, rfl⟩ := hrel
          by_cases hlt : j < n1
          · have hltI : (j : Int) < n1 := by omega
            have hl1 : j < es1.length := by rw [← unhide hn1]; exact hlt
            have hl2 : j < es2.length := by rw [← unhide hn2]; exact hlt
            obtain ⟨b1, o1, rfl, _, l1, r1⟩ := h1.at_ (k := j) (by simpa using hl1)
            obtain ⟨b2, o2, rfl, _, l2, r2⟩ := h2.at_ (k := j) (by simpa using hl2)
            simp only [List.getElem_map] at r1 r2
            have r1' := (rd_below hbW2 l1 _ _).trans r1
            have r2' := (rd_below hbW2 l2 _ _).trans r2
            obtain ⟨X, hX⟩ : ∃ X, X = es1[j] := ⟨_, rfl⟩
            obtain ⟨Y, hY⟩ : ∃ Y, Y = es2[j] := ⟨_, rfl⟩
            rw [← hX] at r1'
            rw [← hY] at r2'
            have t1 := List.take_succ_eq_append_getElem hl1
            have t2 := List.take_succ_eq_append_getElem hl2
            rw [← hX] at t1
            rw [← hY] at t2
            clear hX hY r1 r2 hl1 hl2 l1 l2
            replace t1 := hide t1
            replace t2 := hide t2
            by_cases hxy : X = Y
            · have hd : decide (X = Y) = true := decide_eq_true hxy
              have htk2 : es1.take (j + 1) = es2.take (j + 1) := by rw [unhide t1, unhide t2, unhide htk, hxy]
              replace htk2 := hide htk2
              clear hxy
              go_wp2_with fail
              refine wp_region_quiet_lit (by kernel_rfl) (by kernel_rfl) ?_
              iterate 11 (go_big_quiet_step (fail))
              refine wpQuiet_nil ?_
              rintro _ ⟨nq, rfl⟩
              simp only [Exit.then]
              apply_assumption
              go_wp2_with fail
              go_roundw
              case rel => exact ⟨j + 1, m + nq, by omega, by go_num, htk2, rfl⟩
              case measure => simp [intOf]; omega
            · have hd : decide (X = Y) = false := decide_eq_false hxy
              have hno : sameB s1 a1 s1 a1 es1 es2 = false := decide_eq_false (fun h => hxy (by
                have h3 : es1.take (j + 1) = es2.take (j + 1) := by rw [h.2.2]
                rw [unhide t1, unhide t2, unhide htk] at h3
                exact (List.cons.inj (List.append_cancel_left h3)).1))
              replace hno := hide hno
              clear hxy
              go_wp2_with fail
              refine wp_region_quiet_lit (by kernel_rfl) (by kernel_rfl) ?_
              iterate 11 (go_big_quiet_step (fail))
              refine wpQuiet_nil ?_
              rintro _ ⟨nq, rfl⟩
              simp only [Exit.then]
              apply_assumption
              go_wp2_with fail
              go_ret
              exact ⟨by rw [unhide hno]; rfl, hbW2.trans ⟨rfl, rfl, rfl, Nat.le_refl _, fun _ _ => rfl⟩⟩
          · obtain rfl : j = n1 := by omega
            have hyes : sameB s1 a1 s1 a1 es1 es2 = true := decide_eq_true ⟨rfl, rfl, by
              have h3 := unhide htk
              rw [List.take_of_length_le (by rw [← unhide hn1]; exact Nat.le_refl _), List.take_of_length_le (by rw [← unhide hn2]; exact Nat.le_refl _)] at h3
              exact h3⟩
            replace hyes := hide hyes
            have hbF := hbW2.trans (show Below w.heap.size W (W.drewN m) from ⟨rfl, rfl, rfl, Nat.le_refl _, fun _ _ => rfl⟩)
            go_wp2_with fail
            go_ret
            exact ⟨by rw [unhide hyes]; rfl, hbF⟩
      · have hno : sameB s1 a1 s1 a1 es1 es2 = false := decide_eq_false (fun h => hn (by rw [hn1, hn2, h.2.2]))
        have hnI : ¬ ((n1 : Int) = (n2 : Int)) := by omega
        replace hno := hide hno
        clear hn1 hn2 hn
        go_enter Try.func14, Try.ntmps14
        go_wp2_with fail
        go_ret
        exact ⟨by rw [unhide hno]; rfl, hbW _ _⟩
    · have hno : sameB s1 a1 s1 a2 es1 es2 = false := decide_eq_false (fun h => ha h.2.1)
      replace hno := hide hno
      clear hn1 hn2
      go_enter Try.func14, Try.ntmps14
      go_wp2_with fail
      go_ret
      exact ⟨by rw [unhide hno]; rfl, hbW _ _⟩
  · have hno : sameB s1 a1 s2 a2 es1 es2 = false := decide_eq_false (fun h => hs h.1)
    replace hno := hide hno
    clear hn1 hn2
    go_enter Try.func14, Try.ntmps14
    go_wp2_with fail
    go_ret
    exact ⟨by rw [unhide hno]; rfl, hbW _ _⟩
end Go.Proofs.Ytodbmgafejclmaa.Base
