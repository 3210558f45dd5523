/-
  The document's buffer (ramekinref17): New, Find, Take, Add.
-/
import Derived.Test.YtpblhedmfeddbaaKno
import Derived.Test.YtpblhedmfeddbaaLaw
import Derived.Test.YtpblhedmfeddbaaRfi
import Derived.BigQuiet
import Derived.Deep.QuietTactic
namespace Go.Proofs.Ytpblhedmfeddbaa.Base
open Go.RowKit
set_option linter.unusedSimpArgs false
set_option linter.unusedVariables false
attribute [local go_sem] Ent.arr0 Ent.arr1 Ent.arr2 Ent.set1 Ent.set2 Ent.arr_size Ent.okW Ent.lit run_ldV_ent run_stV_ent ldR_some stR_true rd_new_whole rd_alloc canW_new canW_alloc wr_new wr_alloc rd_drew rd_drewN canW_drew canW_drewN run_bsS_ent run_bsS_ent0 run_eqI_ent rd_setCell rd_setCell_same canW_setCell' Option.map_some cell_wr_other rd_wr_same rd_wr_other
attribute [local go_sem ↓] ldV_ent stV_ent bsS_ent eqI_ent

set_option maxHeartbeats 10000000 in
theorem radd_any (A : Option Addr) (c : Nat) (next : Int) (w : World) (es : List Ent) (e : Ent) (hc : es.length ≤ c) (hn : es.length < 1000000) (hs : Sl w 0 w.heap.size 19 A (es.map Ent.arr)) (h0 : 0 ≤ next) (h1 : next < 9223372036854775807) :
    Calls Try.prog 22 #[.agg #[.slice A es.length c, .int .i64 next], .agg e.arr] w fun e' w' =>
      (∃ A' c', e' = .returned (.agg #[.slice A' (es.length + 1) c', .int .i64 (next + 1)]) ∧ es.length + 1 ≤ c' ∧ Sl w' w.heap.size w'.heap.size 19 A' ((es ++ [{ e with s := next }]).map Ent.arr)) ∧ Below w.heap.size w w' := by
  go_enter Try.func22, Try.ntmps22
  go_wp2_with fail
  obtain ⟨x, hx⟩ : ∃ x : Ent, x = { e with s := next } := ⟨_, rfl⟩
  have hxe : ({ k := e.k, l := e.l, s := next, d := e.d } : Ent) = x := by rw [hx]
  rw [hxe]
  clear hxe
  replace hx := hide hx
  obtain ⟨W, hW⟩ : ∃ W, ((w.alloc (Obj.cells #[Value.slice A es.length c, Value.int IntKind.i64 next] 41)).alloc (Obj.cells x.arr 29)).alloc (Obj.cells #[Value.slice none 0 0, Value.int IntKind.i64 0] 41) = W := ⟨_, rfl⟩
  rw [hW]
  have fz : W.heap.size = w.heap.size + 3 := by rw [← hW]; simp
  have fb : Below w.heap.size w W := by rw [← hW]; exact (((Below.refl _ w).alloc (Nat.le_refl _) _).alloc (by simp) _).alloc (by simp; omega) _
  have f1 : W.cell? ⟨w.heap.size, 0, none⟩ = some (.slice A es.length c) := by rw [← hW]; clear hW; go_simp
  have f2 : W.cell? ⟨w.heap.size, 1, none⟩ = some (.int .i64 next) := by rw [← hW]; clear hW; go_simp
  have f3 : rd W (w.heap.size + 1) 0 19 = some x.arr := by rw [← hW, rd_alloc _ _ _ _ _ (by simp), rd_new_whole _ _ _ _ _ _ (by simp) (by simp [Ent.arr_size])]
  have f4 : W.cell? ⟨w.heap.size + 1 + 1, 0, none⟩ = some (.slice none 0 0) := by rw [← hW]; clear hW; go_simp
  have f5 : W.cell? ⟨w.heap.size + 1 + 1, 1, none⟩ = some (.int .i64 0) := by rw [← hW]; clear hW; go_simp
  have f6 : ∀ o, W.frozen? ⟨w.heap.size + 1 + 1, o, none⟩ = false := by intro o; rw [← hW]; exact frozen_new _ _ _ _ _ (by simp)
  clear hW
  have hlW : w.heap.size + 2 < W.heap.size := by omega
  have hsW : Sl W 0 W.heap.size 19 A (es.map Ent.arr) := (hs.below fb).more fb.size
  replace fz := hide fz
  replace f4 := hide f4
  replace f5 := hide f5
  replace f6 := hide f6
  have b1 : Below W.heap.size W ((W.alloc (Obj.cells #[] 29)).drew) := ((Below.refl _ _).alloc (Nat.le_refl _) _).drew
  have b2 : Below W.heap.size W (((W.alloc (Obj.cells #[] 29)).alloc (Obj.cells x.arr 29)).drew) := (((Below.refl _ _).alloc (Nat.le_refl _) _).alloc (by simp) _).drew
  have b3 : Below W.heap.size W (((W.alloc (Obj.cells x.arr 29)).alloc (Obj.cells #[] 29)).drew) := (((Below.refl _ _).alloc (Nat.le_refl _) _).alloc (by simp) _).drew
  have o1 : Ow ((W.alloc (Obj.cells #[] 29)).drew) W.heap.size 29 19 (.slice (some ⟨W.heap.size, 0, none⟩) 0 0) (([] : List Ent).map Ent.arr) := (Ow.empty W 29 19).drew
  have o2 : Ow (((W.alloc (Obj.cells #[] 29)).alloc (Obj.cells x.arr 29)).drew) W.heap.size 29 19 (.slice (some ⟨W.heap.size, 0, none⟩) 0 0) (([] : List Ent).map Ent.arr) := ((Ow.empty W 29 19).alloc _).drew
  have o3 : Ow (((W.alloc (Obj.cells x.arr 29)).alloc (Obj.cells #[] 29)).drew) W.heap.size 29 19 (.slice (some ⟨W.heap.size + 1, 0, none⟩) 0 0) (([] : List Ent).map Ent.arr) := Ow.less (base := (W.alloc (Obj.cells x.arr 29)).heap.size) (by have h := (Ow.empty (W.alloc (Obj.cells x.arr 29)) 29 19).drew; simpa using h) (by simp)
  have e2 : rd (((W.alloc (Obj.cells #[] 29)).alloc (Obj.cells x.arr 29)).drew) (W.heap.size + 1) 0 19 = some x.arr := rd_new_whole _ _ _ _ _ _ (by simp) (by simp [Ent.arr_size])
  have e3 : rd (((W.alloc (Obj.cells x.arr 29)).alloc (Obj.cells #[] 29)).drew) W.heap.size 0 19 = some x.arr := (rd_alloc _ _ _ _ _ (by simp)).trans (rd_new_whole _ _ _ _ _ _ (by simp) (by simp [Ent.arr_size]))
  have z1 : (((W.alloc (Obj.cells #[] 29)).drew)).heap.size = W.heap.size + 1 := by show (W.alloc _).heap.size = _; simp
  have z2 : ((((W.alloc (Obj.cells #[] 29)).alloc (Obj.cells x.arr 29)).drew)).heap.size = W.heap.size + 2 := by show ((W.alloc _).alloc _).heap.size = _; simp
  have z3 : ((((W.alloc (Obj.cells x.arr 29)).alloc (Obj.cells #[] 29)).drew)).heap.size = W.heap.size + 2 := by show ((W.alloc _).alloc _).heap.size = _; simp
  replace b1 := hide b1; replace b2 := hide b2; replace b3 := hide b3; replace o1 := hide o1; replace o2 := hide o2; replace o3 := hide o3; replace e2 := hide e2; replace e3 := hide e3; replace z1 := hide z1; replace z2 := hide z2; replace z3 := hide z3
  replace hsW := hide hsW
  have keep0 : ∀ w', Below (w.heap.size + 2) W w' → w'.cell? ⟨w.heap.size, 0, none⟩ = some (.slice A es.length c) ∧ w'.cell? ⟨w.heap.size, 1, none⟩ = some (.int .i64 next) ∧ rd w' (w.heap.size + 1) 0 19 = some x.arr := fun w' h => ⟨(h.cell (p := ⟨w.heap.size, 0, none⟩) (by show w.heap.size < _; omega)).trans f1, (h.cell (p := ⟨w.heap.size, 1, none⟩) (by show w.heap.size < _; omega)).trans f2, (rd_below h (by omega) _ _).trans f3⟩
  go_region_held3 (fun w' => w'.cell? ⟨w.heap.size, 0, none⟩ = some (.slice A es.length c) ∧ w'.cell? ⟨w.heap.size, 1, none⟩ = some (.int .i64 next) ∧ rd w' (w.heap.size + 1) 0 19 = some x.arr)
    (first | with_reducible exact keep0 _ (Below.refl _ _).drew | with_reducible exact keep0 _ ((Below.refl _ _).alloc (Nat.le_of_lt hlW) _).drew | with_reducible exact keep0 _ (Below.mono (unhide b1) (Nat.le_of_lt hlW)) | with_reducible exact keep0 _ (Below.mono (unhide b2) (Nat.le_of_lt hlW)) | with_reducible exact keep0 _ (Below.mono (unhide b3) (Nat.le_of_lt hlW)) | with_reducible exact keep0 _ (b5.mono (Nat.le_of_lt hlW)) | with_reducible exact keep0 _ ((b5.alloc b5.size _).mono (Nat.le_of_lt hlW)) | with_reducible exact keep0 _ (b6.mono (Nat.le_of_lt hlW)) | with_reducible exact keep0 _ ((b6.mono (Nat.le_of_lt hlW)).setCell (p := ⟨w.heap.size + 1 + 1, 0, none⟩) (Nat.le_refl (w.heap.size + 2)) _) | with_reducible exact keep0 _ (((b6.mono (Nat.le_of_lt hlW)).setCell (p := ⟨w.heap.size + 1 + 1, 0, none⟩) (Nat.le_refl (w.heap.size + 2)) _).setCell (p := ⟨w.heap.size + 1 + 1, 1, none⟩) (Nat.le_refl (w.heap.size + 2)) _))
    (first
      | (refine step_append_ex (o := ⟨some 11, _, _, _, _, _⟩) (.tmp 8) (.tmp 10) 22 rfl (by rfl) ?_; obtain ⟨A5, c5, w5, hrun, ho5, hg5, hc5⟩ := run_append_ents _ W.heap.size 0 _ [] es (unhide o1) rfl 0 W.heap.size A es.length c ((unhide hsW).below (unhide b1)) rfl (by omega) (unhide b1).size 22; rw [Nat.zero_add] at hrun ho5 hc5; rw [List.nil_append] at ho5; (with_reducible refine app_ex hrun ?_ ?_); rfl; clear hrun; have b5 : Below W.heap.size W w5 := below_grown (unhide b1) hg5 (unhide b1).size (fun k e => ((unhide o1).lt k e).1))
      | (refine step_append_ex (o := ⟨some 11, _, _, _, _, _⟩) (.tmp 8) (.tmp 10) 22 rfl (by rfl) ?_; obtain ⟨A5, c5, w5, hrun, ho5, hg5, hc5⟩ := run_append_ents _ W.heap.size 0 _ [] es (unhide o2) rfl 0 W.heap.size A es.length c ((unhide hsW).below (unhide b2)) rfl (by omega) (unhide b2).size 22; rw [Nat.zero_add] at hrun ho5 hc5; rw [List.nil_append] at ho5; (with_reducible refine app_ex hrun ?_ ?_); rfl; clear hrun; have b5 : Below W.heap.size W w5 := below_grown (unhide b2) hg5 (unhide b2).size (fun k e => ((unhide o2).lt k e).1))
      | (refine step_append_ex (o := ⟨some 11, _, _, _, _, _⟩) (.tmp 8) (.tmp 10) 22 rfl (by rfl) ?_; obtain ⟨A5, c5, w5, hrun, ho5, hg5, hc5⟩ := run_append_ents _ W.heap.size 0 _ [] es (unhide o3) rfl 0 W.heap.size A es.length c ((unhide hsW).below (unhide b3)) rfl (by omega) (unhide b3).size 22; rw [Nat.zero_add] at hrun ho5 hc5; rw [List.nil_append] at ho5; (with_reducible refine app_ex hrun ?_ ?_); rfl; clear hrun; have b5 : Below W.heap.size W w5 := below_grown (unhide b3) hg5 (unhide b3).size (fun k e => ((unhide o3).lt k e).1))
      | (refine step_append_ex (o := ⟨some 14, _, _, _, _, _⟩) (.tmp 11) (.tmp 13) 22 rfl (by rfl) ?_; obtain ⟨A6, c6, w6, hrun, ho6, hg6, hc6⟩ := run_append_ents (w5.alloc (Obj.cells x.arr 29)) W.heap.size es.length _ es [x] (ho5.alloc _) rfl 0 (w5.heap.size + 1) (some ⟨w5.heap.size, 0, none⟩) 1 1 (Sl.one (rd_new_whole _ _ _ _ _ _ rfl (Ent.arr_size _).symm) (Nat.zero_le _) (Nat.lt_succ_self _)) rfl (by omega) (by have := b5.size; simp; omega) 29; (with_reducible refine app_ex hrun ?_ ?_); rfl; clear hrun; have b6 : Below W.heap.size W w6 := below_grown (b5.alloc b5.size _) hg6 (by have := b5.size; simp; omega) (fun k e => ((ho5.alloc (Obj.cells x.arr 29)).lt k e).1); have z4 := (b6.cell (p := ⟨w.heap.size + 1 + 1, 0, none⟩) hlW).trans (unhide f4); have z5 := (b6.cell (p := ⟨w.heap.size + 1 + 1, 1, none⟩) hlW).trans (unhide f5); have z6 := fun o => (b6.frozen (p := ⟨w.heap.size + 1 + 1, o, none⟩) hlW).trans ((unhide f6) o))
      | (refine step_append_ex (o := ⟨some 14, _, _, _, _, _⟩) (.tmp 11) (.tmp 13) 22 rfl (by rfl) ?_; obtain ⟨A6, c6, w6, hrun, ho6, hg6, hc6⟩ := run_append_ents w5 W.heap.size es.length _ es [x] ho5 rfl 0 (W.heap.size + 2) (some ⟨W.heap.size + 1, 0, none⟩) 1 1 (Sl.one ((rd_congr (hg5.block (W.heap.size + 1) (by rw [unhide z2]; omega) (fun e => by simp [Value.ownBlock] at e)) 0 19).trans (unhide e2)) (Nat.zero_le _) (by omega)) rfl (by omega) b5.size 29; (with_reducible refine app_ex hrun ?_ ?_); rfl; clear hrun; have b6 : Below W.heap.size W w6 := below_grown b5 hg6 b5.size (fun k e => (ho5.lt k e).1); have z4 := (b6.cell (p := ⟨w.heap.size + 1 + 1, 0, none⟩) hlW).trans (unhide f4); have z5 := (b6.cell (p := ⟨w.heap.size + 1 + 1, 1, none⟩) hlW).trans (unhide f5); have z6 := fun o => (b6.frozen (p := ⟨w.heap.size + 1 + 1, o, none⟩) hlW).trans ((unhide f6) o))
      | (refine step_append_ex (o := ⟨some 14, _, _, _, _, _⟩) (.tmp 11) (.tmp 13) 22 rfl (by rfl) ?_; obtain ⟨A6, c6, w6, hrun, ho6, hg6, hc6⟩ := run_append_ents w5 W.heap.size es.length _ es [x] ho5 rfl 0 (W.heap.size + 2) (some ⟨W.heap.size, 0, none⟩) 1 1 (Sl.one ((rd_congr (hg5.block W.heap.size (by rw [unhide z3]; omega) (fun e => by simp [Value.ownBlock] at e)) 0 19).trans (unhide e3)) (Nat.zero_le _) (by omega)) rfl (by omega) b5.size 29; (with_reducible refine app_ex hrun ?_ ?_); rfl; clear hrun; have b6 : Below W.heap.size W w6 := below_grown b5 hg6 b5.size (fun k e => (ho5.lt k e).1); have z4 := (b6.cell (p := ⟨w.heap.size + 1 + 1, 0, none⟩) hlW).trans (unhide f4); have z5 := (b6.cell (p := ⟨w.heap.size + 1 + 1, 1, none⟩) hlW).trans (unhide f5); have z6 := fun o => (b6.frozen (p := ⟨w.heap.size + 1 + 1, o, none⟩) hlW).trans ((unhide f6) o)))
  all_goals
    go_wp2
    have hw1 : IntKind.i64.wrap (next + 1) = next + 1 := IntWalk.i64_in _ (by omega)
    refine bodyPost_ret (results_c Try.results22 Try.underlying41 rfl info_buf2 (cs := #[.slice A6 (es.length + 1) c6, .int .i64 (IntKind.i64.wrap (next + 1))]) rfl (rd_two (by go_simp) (by go_simp))) rfl ?_
    rw [hw1]
    have hs6 := ho6.sl (Ent.sized _) (by omega)
    have hb6 := fb.trans (b6.mono (by omega : w.heap.size ≤ W.heap.size))
    rw [unhide hx] at hs6
    have hzz : w6.heap.size = ((w6.setCell { block := w.heap.size + 1 + 1, off := 0 } (Value.slice A6 (es.length + 1) c6)).setCell { block := w.heap.size + 1 + 1, off := 1 } (Value.int IntKind.i64 (next + 1))).heap.size := by simp [World.setCell]
    refine ⟨⟨_, _, rfl, hc6, ?_⟩, (hb6.setCell (by simp; omega) _).setCell (by simp; omega) _⟩
    rw [← hzz]
    exact ((hs6.setCell (.inl hlW) _).setCell (.inl hlW) _).less (by omega)
end Go.Proofs.Ytpblhedmfeddbaa.Base
