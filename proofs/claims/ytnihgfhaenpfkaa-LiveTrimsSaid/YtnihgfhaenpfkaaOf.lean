/-
  live.Of: each sector's entry that counts, and where it stands.
-/
import Derived.Test.YtnihgfhaenpfkaaOg
namespace Go.Proofs.Ytnihgfhaenpfkaa.Base
open Go.RowKit Go.Proofs.YtnihgfhaenpfkaaW.PrintWords Go.Proofs.YtnihgfhaenpfkaaW.PrintLast
set_option linter.unusedSimpArgs false
set_option linter.unusedVariables false
attribute [local go_sem] Ent.arr0 Ent.arr1 Ent.arr2 Ent.set1 Ent.set2 Ent.arr_size Ent.okW Ent.lit run_ldV_ent run_stV_ent ldR_some stR_true rd_new_whole rd_alloc canW_new canW_alloc wr_new wr_alloc rd_drew rd_drewN canW_drew canW_drewN run_bsS_ent run_bsS_ent0 run_eqI_ent rd_setCell rd_setCell_same canW_setCell' Option.map_some cell_wr_other rd_wr_same rd_wr_other
attribute [local go_sem ↓] ldV_ent stV_ent bsS_ent eqI_ent
attribute [local go_sem] Ent.arr0g Ent.arr1g Ent.arr2g run_ldV_dat rd_dat run_eqI_dat dat_lit
attribute [local go_sem ↓] ldV_dat eqI_dat
attribute [local go_sem] wide_fn' wide_depth' Oper.semAt_some run_bdH
attribute [local go_sem ↓] build_had stV_had ldV_pl stV_pl
attribute [local go_sem] run_stV_had U.okW U.arr_size run_ldV_pl run_stV_pl Pl.okW Pl.arr_size
set_option maxRecDepth 100000 in
set_option maxHeartbeats 4000000 in
theorem of_ok (A : Option Addr) (c : Nat) (T : List SupD) (n : Nat) (w : World) (hn : n ≤ 65536) (hsm : Small T) (hc : T.length ≤ c) (hs : Sups w w.heap.size A T) :
    Calls Try.prog 9 #[.slice A T.length c, .int .i64 n] w fun x w' =>
      (∃ bo bp, x = .returned (.tuple #[.slice (some ⟨bo, 0, none⟩) n n, .slice (some ⟨bp, 0, none⟩) n n]) ∧ Sl w' w.heap.size w'.heap.size 19 (some ⟨bo, 0, none⟩) ((esL n (ups T)).map Ent.arr) ∧ Sl w' w.heap.size w'.heap.size 3 (some ⟨bp, 0, none⟩) ((plL n (ups T)).map Pl.arr)) ∧ Below w.heap.size w w' := by
  have hnI : (0 : Int) ≤ n ∧ (n : Int) ≤ 65536 := by omega
  refine (callsIn_wide (n := 0)).1 ?_
  refine callsIn_of_wp_marks Try.func9 rfl trivial ?_ rfl
  simp only [Try.ntmps9, List.size_toArray, List.length_cons, List.length_nil, Nat.reduceAdd, Nat.reduceSub, Array.replicate_succ, Array.replicate_zero, List.push_toArray, List.append_toArray, List.nil_append, List.cons_append]
  gi_wp2_with fail
  obtain ⟨b3, hb3e⟩ : ∃ b3, b3 = w.heap.size := ⟨_, rfl⟩
  obtain ⟨w0, hw0⟩ : ∃ w0, w0 = w.alloc (Obj.cells #[Value.int .i64 n] 3) := ⟨_, rfl⟩
  have hz0 : w0.heap.size = w.heap.size + 1 := by rw [hw0]; simp
  have hb3 : b3 < w0.heap.size := by omega
  have hb0 : Below w.heap.size w w0 := by rw [hw0]; exact (Below.refl _ _).alloc (Nat.le_refl _) _
  have hc3 : w0.cell? ⟨b3, 0, none⟩ = some (.int .i64 n) := by rw [hw0, hb3e]; clear hz0 hb3 hb0; go_simp
  have hb3h : Hid (w0.heap[b3]? = some (.cells #[.int .i64 n] 3 (0, 0))) := hide (by rw [hw0, hb3e]; exact heap_alloc_new _ _)
  rw [← hw0, ← hb3e]
  clear hw0
  replace hb3e := hide hb3e
  replace hz0 := hide hz0
  -- REGION3{
  refine wpIn_wide.2 ?_
  refine region_inv 12 (fun l a w => ∃ u13 u14 u16 u17 x6 x7 x8 x18 x19 x20 x21 x22 x23, a = ofA A T.length c b3 n u13 u14 u16 u17 x6 x7 x8 x18 x19 x20 x21 x22 x23 ∧ OfI w0 n l x6 x7 x8 x18 x19 x20 x21 x22 x23 w) (by kernel_rfl) (by kernel_rfl) rfl ?_ ?_ ?_
  · refine ⟨_, _, _, _, _, _, _, _, _, _, _, _, _, rfl, { b := (Below.refl _ _).drew, l0 := (fun hl => by cases hl), l2 := (fun hl => by cases hl), l4 := (fun hl => by cases hl), l1 := (fun hl => by cases hl), l3 := (fun hl => by cases hl), l5 := (fun hl => by cases hl), l6 := (fun hl => by cases hl), l7 := (fun hl => by cases hl), l8 := (fun hl => by cases hl), c9 := (fun hl => by cases hl), c10 := (fun hl => by cases hl), c11 := (fun hl => by cases hl) }⟩
  · rintro l a w i o ho hun hall hsz ⟨u13, u14, u16, u17, x6, x7, x8, x18, x19, x20, x21, x22, x23, rfl, I⟩ K hK
    have hl' : ∀ j, i ≠ j → (l.setIfInBounds i true).getD j false = l.getD j false := fun j hj => getD_set_ne false hj
    match i, ho with
    | 0, ho =>
      obtain rfl := Option.some.inj ho
      have hc : w.cell? ⟨b3, 0, none⟩ = some (.int .i64 n) := (I.b.cell (p := ⟨b3, 0, none⟩) hb3).trans hc3
      refine value_ (v := .int .i64 n) (w1 := w) (by rfl) rfl (by unfold ofA; clear hl' hall hK I; go_simp) ?_
      exact hK.out _ _ ⟨u13, u14, u16, u17, x6, x7, x8, .int .i64 n, x19, x20, x21, x22, x23, rfl, { b := I.b, l0 := (fun _ => rfl), l2 := (fun hl => I.l2 (by rw [← hl' 2 (by decide)]; exact hl)), l4 := (fun hl => I.l4 (by rw [← hl' 4 (by decide)]; exact hl)), l1 := (fun hl => I.l1 (by rw [← hl' 1 (by decide)]; exact hl)), l3 := (fun hl => I.l3 (by rw [← hl' 3 (by decide)]; exact hl)), l5 := (fun hl => I.l5 (by rw [← hl' 5 (by decide)]; exact hl)), l6 := (fun hl => by obtain ⟨p, v, h1, h2, h3, h4⟩ := I.l6 (by rw [← hl' 6 (by decide)]; exact hl); exact ⟨p, v, h1, h2, h3, fun hl2 => h4 (by rw [← hl' 9 (by decide)]; exact hl2)⟩), l7 := (fun hl => by obtain ⟨p, v, h1, h2, h3, h4⟩ := I.l7 (by rw [← hl' 7 (by decide)]; exact hl); exact ⟨p, v, h1, h2, h3, fun hl2 => h4 (by rw [← hl' 10 (by decide)]; exact hl2)⟩), l8 := (fun hl => by obtain ⟨p, v, h1, h2, h3, h4⟩ := I.l8 (by rw [← hl' 8 (by decide)]; exact hl); exact ⟨p, v, h1, h2, h3, fun hl2 => h4 (by rw [← hl' 11 (by decide)]; exact hl2)⟩), c9 := (fun hl => ⟨by first | (rw [hl' 1 (by decide)]; exact (I.c9 (by rw [← hl' 9 (by decide)]; exact hl)).1) | simp [hsz], by first | (rw [hl' 6 (by decide)]; exact (I.c9 (by rw [← hl' 9 (by decide)]; exact hl)).2) | simp [hsz]⟩), c10 := (fun hl => ⟨by first | (rw [hl' 3 (by decide)]; exact (I.c10 (by rw [← hl' 10 (by decide)]; exact hl)).1) | simp [hsz], by first | (rw [hl' 7 (by decide)]; exact (I.c10 (by rw [← hl' 10 (by decide)]; exact hl)).2) | simp [hsz]⟩), c11 := (fun hl => ⟨by first | (rw [hl' 5 (by decide)]; exact (I.c11 (by rw [← hl' 11 (by decide)]; exact hl)).1) | simp [hsz], by first | (rw [hl' 8 (by decide)]; exact (I.c11 (by rw [← hl' 11 (by decide)]; exact hl)).2) | simp [hsz]⟩) }⟩
    | 2, ho =>
      obtain rfl := Option.some.inj ho
      have hc : w.cell? ⟨b3, 0, none⟩ = some (.int .i64 n) := (I.b.cell (p := ⟨b3, 0, none⟩) hb3).trans hc3
      refine value_ (v := .int .i64 n) (w1 := w) (by rfl) rfl (by unfold ofA; clear hl' hall hK I; go_simp) ?_
      exact hK.out _ _ ⟨u13, u14, u16, u17, x6, x7, x8, x18, x19, .int .i64 n, x21, x22, x23, rfl, { b := I.b, l0 := (fun hl => I.l0 (by rw [← hl' 0 (by decide)]; exact hl)), l2 := (fun _ => rfl), l4 := (fun hl => I.l4 (by rw [← hl' 4 (by decide)]; exact hl)), l1 := (fun hl => I.l1 (by rw [← hl' 1 (by decide)]; exact hl)), l3 := (fun hl => I.l3 (by rw [← hl' 3 (by decide)]; exact hl)), l5 := (fun hl => I.l5 (by rw [← hl' 5 (by decide)]; exact hl)), l6 := (fun hl => by obtain ⟨p, v, h1, h2, h3, h4⟩ := I.l6 (by rw [← hl' 6 (by decide)]; exact hl); exact ⟨p, v, h1, h2, h3, fun hl2 => h4 (by rw [← hl' 9 (by decide)]; exact hl2)⟩), l7 := (fun hl => by obtain ⟨p, v, h1, h2, h3, h4⟩ := I.l7 (by rw [← hl' 7 (by decide)]; exact hl); exact ⟨p, v, h1, h2, h3, fun hl2 => h4 (by rw [← hl' 10 (by decide)]; exact hl2)⟩), l8 := (fun hl => by obtain ⟨p, v, h1, h2, h3, h4⟩ := I.l8 (by rw [← hl' 8 (by decide)]; exact hl); exact ⟨p, v, h1, h2, h3, fun hl2 => h4 (by rw [← hl' 11 (by decide)]; exact hl2)⟩), c9 := (fun hl => ⟨by first | (rw [hl' 1 (by decide)]; exact (I.c9 (by rw [← hl' 9 (by decide)]; exact hl)).1) | simp [hsz], by first | (rw [hl' 6 (by decide)]; exact (I.c9 (by rw [← hl' 9 (by decide)]; exact hl)).2) | simp [hsz]⟩), c10 := (fun hl => ⟨by first | (rw [hl' 3 (by decide)]; exact (I.c10 (by rw [← hl' 10 (by decide)]; exact hl)).1) | simp [hsz], by first | (rw [hl' 7 (by decide)]; exact (I.c10 (by rw [← hl' 10 (by decide)]; exact hl)).2) | simp [hsz]⟩), c11 := (fun hl => ⟨by first | (rw [hl' 5 (by decide)]; exact (I.c11 (by rw [← hl' 11 (by decide)]; exact hl)).1) | simp [hsz], by first | (rw [hl' 8 (by decide)]; exact (I.c11 (by rw [← hl' 11 (by decide)]; exact hl)).2) | simp [hsz]⟩) }⟩
    | 4, ho =>
      obtain rfl := Option.some.inj ho
      have hc : w.cell? ⟨b3, 0, none⟩ = some (.int .i64 n) := (I.b.cell (p := ⟨b3, 0, none⟩) hb3).trans hc3
      refine value_ (v := .int .i64 n) (w1 := w) (by rfl) rfl (by unfold ofA; clear hl' hall hK I; go_simp) ?_
      exact hK.out _ _ ⟨u13, u14, u16, u17, x6, x7, x8, x18, x19, x20, x21, .int .i64 n, x23, rfl, { b := I.b, l0 := (fun hl => I.l0 (by rw [← hl' 0 (by decide)]; exact hl)), l2 := (fun hl => I.l2 (by rw [← hl' 2 (by decide)]; exact hl)), l4 := (fun _ => rfl), l1 := (fun hl => I.l1 (by rw [← hl' 1 (by decide)]; exact hl)), l3 := (fun hl => I.l3 (by rw [← hl' 3 (by decide)]; exact hl)), l5 := (fun hl => I.l5 (by rw [← hl' 5 (by decide)]; exact hl)), l6 := (fun hl => by obtain ⟨p, v, h1, h2, h3, h4⟩ := I.l6 (by rw [← hl' 6 (by decide)]; exact hl); exact ⟨p, v, h1, h2, h3, fun hl2 => h4 (by rw [← hl' 9 (by decide)]; exact hl2)⟩), l7 := (fun hl => by obtain ⟨p, v, h1, h2, h3, h4⟩ := I.l7 (by rw [← hl' 7 (by decide)]; exact hl); exact ⟨p, v, h1, h2, h3, fun hl2 => h4 (by rw [← hl' 10 (by decide)]; exact hl2)⟩), l8 := (fun hl => by obtain ⟨p, v, h1, h2, h3, h4⟩ := I.l8 (by rw [← hl' 8 (by decide)]; exact hl); exact ⟨p, v, h1, h2, h3, fun hl2 => h4 (by rw [← hl' 11 (by decide)]; exact hl2)⟩), c9 := (fun hl => ⟨by first | (rw [hl' 1 (by decide)]; exact (I.c9 (by rw [← hl' 9 (by decide)]; exact hl)).1) | simp [hsz], by first | (rw [hl' 6 (by decide)]; exact (I.c9 (by rw [← hl' 9 (by decide)]; exact hl)).2) | simp [hsz]⟩), c10 := (fun hl => ⟨by first | (rw [hl' 3 (by decide)]; exact (I.c10 (by rw [← hl' 10 (by decide)]; exact hl)).1) | simp [hsz], by first | (rw [hl' 7 (by decide)]; exact (I.c10 (by rw [← hl' 10 (by decide)]; exact hl)).2) | simp [hsz]⟩), c11 := (fun hl => ⟨by first | (rw [hl' 5 (by decide)]; exact (I.c11 (by rw [← hl' 11 (by decide)]; exact hl)).1) | simp [hsz], by first | (rw [hl' 8 (by decide)]; exact (I.c11 (by rw [← hl' 11 (by decide)]; exact hl)).2) | simp [hsz]⟩) }⟩
    | 1, ho =>
      obtain rfl := Option.some.inj ho
      have hx := I.l0 (hall ⟨0, .data⟩ (by simp) (by rfl))
      subst hx
      have hmk := make_ent n (by omega) w
      refine value_ (v := .slice (some ⟨w.heap.size, 0, none⟩) n n) (w1 := w.alloc (.cells (madeCells Ent.zero.arr (n * 19)) 37)) (by rfl) rfl (by unfold ofA; clear hl' hall hK I; go_simp) ?_
      have I2 := I.alloc (.cells (madeCells Ent.zero.arr (n * 19)) 37)
      exact hK.out _ _ ⟨u13, u14, u16, u17, x6, x7, x8, .int .i64 n, .slice (some ⟨w.heap.size, 0, none⟩) n n, x20, x21, x22, x23, rfl, { b := I2.b, l0 := (fun hl => I2.l0 (by rw [← hl' 0 (by decide)]; exact hl)), l2 := (fun hl => I2.l2 (by rw [← hl' 2 (by decide)]; exact hl)), l4 := (fun hl => I2.l4 (by rw [← hl' 4 (by decide)]; exact hl)), l1 := (fun _ => ⟨_, rfl, I.b.size, Arr.made w 37 n Ent.zero.arr (by decide)⟩), l3 := (fun hl => I2.l3 (by rw [← hl' 3 (by decide)]; exact hl)), l5 := (fun hl => I2.l5 (by rw [← hl' 5 (by decide)]; exact hl)), l6 := (fun hl => by obtain ⟨p, v, h1, h2, h3, h4⟩ := I2.l6 (by rw [← hl' 6 (by decide)]; exact hl); exact ⟨p, v, h1, h2, h3, fun hl2 => (getD_no hun (I.c9 (by rw [← hl' 9 (by decide)]; exact hl2)).1).elim⟩), l7 := (fun hl => by obtain ⟨p, v, h1, h2, h3, h4⟩ := I2.l7 (by rw [← hl' 7 (by decide)]; exact hl); exact ⟨p, v, h1, h2, h3, fun hl2 => h4 (by rw [← hl' 10 (by decide)]; exact hl2)⟩), l8 := (fun hl => by obtain ⟨p, v, h1, h2, h3, h4⟩ := I2.l8 (by rw [← hl' 8 (by decide)]; exact hl); exact ⟨p, v, h1, h2, h3, fun hl2 => h4 (by rw [← hl' 11 (by decide)]; exact hl2)⟩), c9 := (fun hl => ⟨by simp [hsz], by first | (rw [hl' 6 (by decide)]; exact (I2.c9 (by rw [← hl' 9 (by decide)]; exact hl)).2) | simp [hsz]⟩), c10 := (fun hl => ⟨by first | (rw [hl' 3 (by decide)]; exact (I2.c10 (by rw [← hl' 10 (by decide)]; exact hl)).1) | simp [hsz], by first | (rw [hl' 7 (by decide)]; exact (I2.c10 (by rw [← hl' 10 (by decide)]; exact hl)).2) | simp [hsz]⟩), c11 := (fun hl => ⟨by first | (rw [hl' 5 (by decide)]; exact (I2.c11 (by rw [← hl' 11 (by decide)]; exact hl)).1) | simp [hsz], by first | (rw [hl' 8 (by decide)]; exact (I2.c11 (by rw [← hl' 11 (by decide)]; exact hl)).2) | simp [hsz]⟩) }⟩
    | 3, ho =>
      obtain rfl := Option.some.inj ho
      have hx := I.l2 (hall ⟨2, .data⟩ (by simp) (by rfl))
      subst hx
      have hmk := make_pl n (by omega) w
      refine value_ (v := .slice (some ⟨w.heap.size, 0, none⟩) n n) (w1 := w.alloc (.cells (madeCells zP.arr (n * 3)) 34)) (by rfl) rfl (by unfold ofA; clear hl' hall hK I; go_simp) ?_
      have I2 := I.alloc (.cells (madeCells zP.arr (n * 3)) 34)
      exact hK.out _ _ ⟨u13, u14, u16, u17, x6, x7, x8, x18, x19, .int .i64 n, .slice (some ⟨w.heap.size, 0, none⟩) n n, x22, x23, rfl, { b := I2.b, l0 := (fun hl => I2.l0 (by rw [← hl' 0 (by decide)]; exact hl)), l2 := (fun hl => I2.l2 (by rw [← hl' 2 (by decide)]; exact hl)), l4 := (fun hl => I2.l4 (by rw [← hl' 4 (by decide)]; exact hl)), l1 := (fun hl => I2.l1 (by rw [← hl' 1 (by decide)]; exact hl)), l3 := (fun _ => ⟨_, rfl, I.b.size, Arr.made w 34 n zP.arr (by decide)⟩), l5 := (fun hl => I2.l5 (by rw [← hl' 5 (by decide)]; exact hl)), l6 := (fun hl => by obtain ⟨p, v, h1, h2, h3, h4⟩ := I2.l6 (by rw [← hl' 6 (by decide)]; exact hl); exact ⟨p, v, h1, h2, h3, fun hl2 => h4 (by rw [← hl' 9 (by decide)]; exact hl2)⟩), l7 := (fun hl => by obtain ⟨p, v, h1, h2, h3, h4⟩ := I2.l7 (by rw [← hl' 7 (by decide)]; exact hl); exact ⟨p, v, h1, h2, h3, fun hl2 => (getD_no hun (I.c10 (by rw [← hl' 10 (by decide)]; exact hl2)).1).elim⟩), l8 := (fun hl => by obtain ⟨p, v, h1, h2, h3, h4⟩ := I2.l8 (by rw [← hl' 8 (by decide)]; exact hl); exact ⟨p, v, h1, h2, h3, fun hl2 => h4 (by rw [← hl' 11 (by decide)]; exact hl2)⟩), c9 := (fun hl => ⟨by first | (rw [hl' 1 (by decide)]; exact (I2.c9 (by rw [← hl' 9 (by decide)]; exact hl)).1) | simp [hsz], by first | (rw [hl' 6 (by decide)]; exact (I2.c9 (by rw [← hl' 9 (by decide)]; exact hl)).2) | simp [hsz]⟩), c10 := (fun hl => ⟨by simp [hsz], by first | (rw [hl' 7 (by decide)]; exact (I2.c10 (by rw [← hl' 10 (by decide)]; exact hl)).2) | simp [hsz]⟩), c11 := (fun hl => ⟨by first | (rw [hl' 5 (by decide)]; exact (I2.c11 (by rw [← hl' 11 (by decide)]; exact hl)).1) | simp [hsz], by first | (rw [hl' 8 (by decide)]; exact (I2.c11 (by rw [← hl' 11 (by decide)]; exact hl)).2) | simp [hsz]⟩) }⟩
    | 5, ho =>
      obtain rfl := Option.some.inj ho
      have hx := I.l4 (hall ⟨4, .data⟩ (by simp) (by rfl))
      subst hx
      have hmk := make_int n (by omega) w
      refine value_ (v := .slice (some ⟨w.heap.size, 0, none⟩) n n) (w1 := w.alloc (.cells (madeCells #[.int .i64 0] (n * 1)) 3)) (by rfl) rfl (by unfold ofA; clear hl' hall hK I; go_simp) ?_
      have I2 := I.alloc (.cells (madeCells #[.int .i64 0] (n * 1)) 3)
      exact hK.out _ _ ⟨u13, u14, u16, u17, x6, x7, x8, x18, x19, x20, x21, .int .i64 n, .slice (some ⟨w.heap.size, 0, none⟩) n n, rfl, { b := I2.b, l0 := (fun hl => I2.l0 (by rw [← hl' 0 (by decide)]; exact hl)), l2 := (fun hl => I2.l2 (by rw [← hl' 2 (by decide)]; exact hl)), l4 := (fun hl => I2.l4 (by rw [← hl' 4 (by decide)]; exact hl)), l1 := (fun hl => I2.l1 (by rw [← hl' 1 (by decide)]; exact hl)), l3 := (fun hl => I2.l3 (by rw [← hl' 3 (by decide)]; exact hl)), l5 := (fun _ => ⟨_, rfl, I.b.size, Arr.made w 3 n #[.int .i64 0] (by decide)⟩), l6 := (fun hl => by obtain ⟨p, v, h1, h2, h3, h4⟩ := I2.l6 (by rw [← hl' 6 (by decide)]; exact hl); exact ⟨p, v, h1, h2, h3, fun hl2 => h4 (by rw [← hl' 9 (by decide)]; exact hl2)⟩), l7 := (fun hl => by obtain ⟨p, v, h1, h2, h3, h4⟩ := I2.l7 (by rw [← hl' 7 (by decide)]; exact hl); exact ⟨p, v, h1, h2, h3, fun hl2 => h4 (by rw [← hl' 10 (by decide)]; exact hl2)⟩), l8 := (fun hl => by obtain ⟨p, v, h1, h2, h3, h4⟩ := I2.l8 (by rw [← hl' 8 (by decide)]; exact hl); exact ⟨p, v, h1, h2, h3, fun hl2 => (getD_no hun (I.c11 (by rw [← hl' 11 (by decide)]; exact hl2)).1).elim⟩), c9 := (fun hl => ⟨by first | (rw [hl' 1 (by decide)]; exact (I2.c9 (by rw [← hl' 9 (by decide)]; exact hl)).1) | simp [hsz], by first | (rw [hl' 6 (by decide)]; exact (I2.c9 (by rw [← hl' 9 (by decide)]; exact hl)).2) | simp [hsz]⟩), c10 := (fun hl => ⟨by first | (rw [hl' 3 (by decide)]; exact (I2.c10 (by rw [← hl' 10 (by decide)]; exact hl)).1) | simp [hsz], by first | (rw [hl' 7 (by decide)]; exact (I2.c10 (by rw [← hl' 10 (by decide)]; exact hl)).2) | simp [hsz]⟩), c11 := (fun hl => ⟨by simp [hsz], by first | (rw [hl' 8 (by decide)]; exact (I2.c11 (by rw [← hl' 11 (by decide)]; exact hl)).2) | simp [hsz]⟩) }⟩
    | 6, ho =>
      obtain rfl := Option.some.inj ho
      refine value_ (v := .pointer (some ⟨w.heap.size, 0, none⟩)) (w1 := w.alloc (.cells #[.slice none 0 0] 27)) (by rfl) rfl (by unfold ofA; clear hl' hall hK I; go_simp) ?_
      have I2 := I.alloc (.cells #[.slice none 0 0] 27)
      exact hK.out _ _ ⟨u13, u14, u16, u17, .pointer (some ⟨w.heap.size, 0, none⟩), x7, x8, x18, x19, x20, x21, x22, x23, rfl, { b := I2.b, l0 := (fun hl => I2.l0 (by rw [← hl' 0 (by decide)]; exact hl)), l2 := (fun hl => I2.l2 (by rw [← hl' 2 (by decide)]; exact hl)), l4 := (fun hl => I2.l4 (by rw [← hl' 4 (by decide)]; exact hl)), l1 := (fun hl => I2.l1 (by rw [← hl' 1 (by decide)]; exact hl)), l3 := (fun hl => I2.l3 (by rw [← hl' 3 (by decide)]; exact hl)), l5 := (fun hl => I2.l5 (by rw [← hl' 5 (by decide)]; exact hl)), l6 := (fun _ => ⟨_, _, rfl, I.b.size, heap_alloc_new _ _, fun hl2 => (getD_no hun (I.c9 (by rw [← hl' 9 (by decide)]; exact hl2)).2).elim⟩), l7 := (fun hl => by obtain ⟨p, v, h1, h2, h3, h4⟩ := I2.l7 (by rw [← hl' 7 (by decide)]; exact hl); exact ⟨p, v, h1, h2, h3, fun hl2 => h4 (by rw [← hl' 10 (by decide)]; exact hl2)⟩), l8 := (fun hl => by obtain ⟨p, v, h1, h2, h3, h4⟩ := I2.l8 (by rw [← hl' 8 (by decide)]; exact hl); exact ⟨p, v, h1, h2, h3, fun hl2 => h4 (by rw [← hl' 11 (by decide)]; exact hl2)⟩), c9 := (fun hl => ⟨by first | (rw [hl' 1 (by decide)]; exact (I2.c9 (by rw [← hl' 9 (by decide)]; exact hl)).1) | simp [hsz], by simp [hsz]⟩), c10 := (fun hl => ⟨by first | (rw [hl' 3 (by decide)]; exact (I2.c10 (by rw [← hl' 10 (by decide)]; exact hl)).1) | simp [hsz], by first | (rw [hl' 7 (by decide)]; exact (I2.c10 (by rw [← hl' 10 (by decide)]; exact hl)).2) | simp [hsz]⟩), c11 := (fun hl => ⟨by first | (rw [hl' 5 (by decide)]; exact (I2.c11 (by rw [← hl' 11 (by decide)]; exact hl)).1) | simp [hsz], by first | (rw [hl' 8 (by decide)]; exact (I2.c11 (by rw [← hl' 11 (by decide)]; exact hl)).2) | simp [hsz]⟩) }⟩
    | 7, ho =>
      obtain rfl := Option.some.inj ho
      refine value_ (v := .pointer (some ⟨w.heap.size, 0, none⟩)) (w1 := w.alloc (.cells #[.slice none 0 0] 28)) (by rfl) rfl (by unfold ofA; clear hl' hall hK I; go_simp) ?_
      have I2 := I.alloc (.cells #[.slice none 0 0] 28)
      exact hK.out _ _ ⟨u13, u14, u16, u17, x6, .pointer (some ⟨w.heap.size, 0, none⟩), x8, x18, x19, x20, x21, x22, x23, rfl, { b := I2.b, l0 := (fun hl => I2.l0 (by rw [← hl' 0 (by decide)]; exact hl)), l2 := (fun hl => I2.l2 (by rw [← hl' 2 (by decide)]; exact hl)), l4 := (fun hl => I2.l4 (by rw [← hl' 4 (by decide)]; exact hl)), l1 := (fun hl => I2.l1 (by rw [← hl' 1 (by decide)]; exact hl)), l3 := (fun hl => I2.l3 (by rw [← hl' 3 (by decide)]; exact hl)), l5 := (fun hl => I2.l5 (by rw [← hl' 5 (by decide)]; exact hl)), l6 := (fun hl => by obtain ⟨p, v, h1, h2, h3, h4⟩ := I2.l6 (by rw [← hl' 6 (by decide)]; exact hl); exact ⟨p, v, h1, h2, h3, fun hl2 => h4 (by rw [← hl' 9 (by decide)]; exact hl2)⟩), l7 := (fun _ => ⟨_, _, rfl, I.b.size, heap_alloc_new _ _, fun hl2 => (getD_no hun (I.c10 (by rw [← hl' 10 (by decide)]; exact hl2)).2).elim⟩), l8 := (fun hl => by obtain ⟨p, v, h1, h2, h3, h4⟩ := I2.l8 (by rw [← hl' 8 (by decide)]; exact hl); exact ⟨p, v, h1, h2, h3, fun hl2 => h4 (by rw [← hl' 11 (by decide)]; exact hl2)⟩), c9 := (fun hl => ⟨by first | (rw [hl' 1 (by decide)]; exact (I2.c9 (by rw [← hl' 9 (by decide)]; exact hl)).1) | simp [hsz], by first | (rw [hl' 6 (by decide)]; exact (I2.c9 (by rw [← hl' 9 (by decide)]; exact hl)).2) | simp [hsz]⟩), c10 := (fun hl => ⟨by first | (rw [hl' 3 (by decide)]; exact (I2.c10 (by rw [← hl' 10 (by decide)]; exact hl)).1) | simp [hsz], by simp [hsz]⟩), c11 := (fun hl => ⟨by first | (rw [hl' 5 (by decide)]; exact (I2.c11 (by rw [← hl' 11 (by decide)]; exact hl)).1) | simp [hsz], by first | (rw [hl' 8 (by decide)]; exact (I2.c11 (by rw [← hl' 11 (by decide)]; exact hl)).2) | simp [hsz]⟩) }⟩
    | 8, ho =>
      obtain rfl := Option.some.inj ho
      refine value_ (v := .pointer (some ⟨w.heap.size, 0, none⟩)) (w1 := w.alloc (.cells #[.slice none 0 0] 31)) (by rfl) rfl (by unfold ofA; clear hl' hall hK I; go_simp) ?_
      have I2 := I.alloc (.cells #[.slice none 0 0] 31)
      exact hK.out _ _ ⟨u13, u14, u16, u17, x6, x7, .pointer (some ⟨w.heap.size, 0, none⟩), x18, x19, x20, x21, x22, x23, rfl, { b := I2.b, l0 := (fun hl => I2.l0 (by rw [← hl' 0 (by decide)]; exact hl)), l2 := (fun hl => I2.l2 (by rw [← hl' 2 (by decide)]; exact hl)), l4 := (fun hl => I2.l4 (by rw [← hl' 4 (by decide)]; exact hl)), l1 := (fun hl => I2.l1 (by rw [← hl' 1 (by decide)]; exact hl)), l3 := (fun hl => I2.l3 (by rw [← hl' 3 (by decide)]; exact hl)), l5 := (fun hl => I2.l5 (by rw [← hl' 5 (by decide)]; exact hl)), l6 := (fun hl => by obtain ⟨p, v, h1, h2, h3, h4⟩ := I2.l6 (by rw [← hl' 6 (by decide)]; exact hl); exact ⟨p, v, h1, h2, h3, fun hl2 => h4 (by rw [← hl' 9 (by decide)]; exact hl2)⟩), l7 := (fun hl => by obtain ⟨p, v, h1, h2, h3, h4⟩ := I2.l7 (by rw [← hl' 7 (by decide)]; exact hl); exact ⟨p, v, h1, h2, h3, fun hl2 => h4 (by rw [← hl' 10 (by decide)]; exact hl2)⟩), l8 := (fun _ => ⟨_, _, rfl, I.b.size, heap_alloc_new _ _, fun hl2 => (getD_no hun (I.c11 (by rw [← hl' 11 (by decide)]; exact hl2)).2).elim⟩), c9 := (fun hl => ⟨by first | (rw [hl' 1 (by decide)]; exact (I2.c9 (by rw [← hl' 9 (by decide)]; exact hl)).1) | simp [hsz], by first | (rw [hl' 6 (by decide)]; exact (I2.c9 (by rw [← hl' 9 (by decide)]; exact hl)).2) | simp [hsz]⟩), c10 := (fun hl => ⟨by first | (rw [hl' 3 (by decide)]; exact (I2.c10 (by rw [← hl' 10 (by decide)]; exact hl)).1) | simp [hsz], by first | (rw [hl' 7 (by decide)]; exact (I2.c10 (by rw [← hl' 10 (by decide)]; exact hl)).2) | simp [hsz]⟩), c11 := (fun hl => ⟨by first | (rw [hl' 5 (by decide)]; exact (I2.c11 (by rw [← hl' 11 (by decide)]; exact hl)).1) | simp [hsz], by simp [hsz]⟩) }⟩
    | 9, ho =>
      obtain rfl := Option.some.inj ho
      have hd1 := hall ⟨1, .data⟩ (by simp) (by rfl)
      have hd2 := hall ⟨6, .data⟩ (by simp) (by rfl)
      obtain ⟨b, rfl, hb, hA⟩ := I.l1 hd1
      obtain ⟨p, v, rfl, hp, h3, h4⟩ := I.l6 hd2
      have hcl : w.cell? ⟨p, 0, none⟩ = some v := by simp [World.cell?, h3]
      have hfr : w.frozen? ⟨p, 0, none⟩ = false := by simp [World.frozen?, h3]
      refine skip_ (w1 := w.setCell ⟨p, 0, none⟩ (.slice (some ⟨b, 0, none⟩) n n)) (by rfl) rfl (by unfold ofA; clear hl' hall hK I h4 h3; go_simp) ?_
      exact hK.out _ _ ⟨u13, u14, u16, u17, .pointer (some ⟨p, 0, none⟩), x7, x8, x18, .slice (some ⟨b, 0, none⟩) n n, x20, x21, x22, x23, rfl, { b := I.b.setCell hp _, l0 := (fun hl => I.l0 (by rw [← hl' 0 (by decide)]; exact hl)), l2 := (fun hl => I.l2 (by rw [← hl' 2 (by decide)]; exact hl)), l4 := (fun hl => I.l4 (by rw [← hl' 4 (by decide)]; exact hl)), l1 := (fun hl => by obtain ⟨b2, k1, k2, k3⟩ := I.l1 (by rw [← hl' 1 (by decide)]; exact hl); exact ⟨b2, k1, k2, k3.mv (Below.heap_setCell _ _ _ _ (blk_ne k3.hp h3 (by decide)))⟩), l3 := (fun hl => by obtain ⟨b2, k1, k2, k3⟩ := I.l3 (by rw [← hl' 3 (by decide)]; exact hl); exact ⟨b2, k1, k2, k3.mv (Below.heap_setCell _ _ _ _ (blk_ne k3.hp h3 (by decide)))⟩), l5 := (fun hl => by obtain ⟨b2, k1, k2, k3⟩ := I.l5 (by rw [← hl' 5 (by decide)]; exact hl); exact ⟨b2, k1, k2, k3.mv (Below.heap_setCell _ _ _ _ (blk_ne k3.hp h3 (by decide)))⟩), l6 := (fun _ => ⟨p, _, rfl, hp, set_one h3 _, fun _ => rfl⟩), l7 := (fun hl => by obtain ⟨p2, v2, k1, k2, k3, k4⟩ := I.l7 (by rw [← hl' 7 (by decide)]; exact hl); exact ⟨p2, v2, k1, k2, (Below.heap_setCell _ _ _ _ (blk_ne k3 h3 (by decide))).trans k3, fun hl2 => k4 (by rw [← hl' 10 (by decide)]; exact hl2)⟩), l8 := (fun hl => by obtain ⟨p2, v2, k1, k2, k3, k4⟩ := I.l8 (by rw [← hl' 8 (by decide)]; exact hl); exact ⟨p2, v2, k1, k2, (Below.heap_setCell _ _ _ _ (blk_ne k3 h3 (by decide))).trans k3, fun hl2 => k4 (by rw [← hl' 11 (by decide)]; exact hl2)⟩), c9 := (fun _ => ⟨by rw [hl' 1 (by decide)]; exact hd1, by rw [hl' 6 (by decide)]; exact hd2⟩), c10 := (fun hl => ⟨by first | (rw [hl' 3 (by decide)]; exact (I.c10 (by rw [← hl' 10 (by decide)]; exact hl)).1) | simp [hsz], by first | (rw [hl' 7 (by decide)]; exact (I.c10 (by rw [← hl' 10 (by decide)]; exact hl)).2) | simp [hsz]⟩), c11 := (fun hl => ⟨by first | (rw [hl' 5 (by decide)]; exact (I.c11 (by rw [← hl' 11 (by decide)]; exact hl)).1) | simp [hsz], by first | (rw [hl' 8 (by decide)]; exact (I.c11 (by rw [← hl' 11 (by decide)]; exact hl)).2) | simp [hsz]⟩) }⟩
    | 10, ho =>
      obtain rfl := Option.some.inj ho
      have hd1 := hall ⟨3, .data⟩ (by simp) (by rfl)
      have hd2 := hall ⟨7, .data⟩ (by simp) (by rfl)
      obtain ⟨b, rfl, hb, hA⟩ := I.l3 hd1
      obtain ⟨p, v, rfl, hp, h3, h4⟩ := I.l7 hd2
      have hcl : w.cell? ⟨p, 0, none⟩ = some v := by simp [World.cell?, h3]
      have hfr : w.frozen? ⟨p, 0, none⟩ = false := by simp [World.frozen?, h3]
      refine skip_ (w1 := w.setCell ⟨p, 0, none⟩ (.slice (some ⟨b, 0, none⟩) n n)) (by rfl) rfl (by unfold ofA; clear hl' hall hK I h4 h3; go_simp) ?_
      exact hK.out _ _ ⟨u13, u14, u16, u17, x6, .pointer (some ⟨p, 0, none⟩), x8, x18, x19, x20, .slice (some ⟨b, 0, none⟩) n n, x22, x23, rfl, { b := I.b.setCell hp _, l0 := (fun hl => I.l0 (by rw [← hl' 0 (by decide)]; exact hl)), l2 := (fun hl => I.l2 (by rw [← hl' 2 (by decide)]; exact hl)), l4 := (fun hl => I.l4 (by rw [← hl' 4 (by decide)]; exact hl)), l1 := (fun hl => by obtain ⟨b2, k1, k2, k3⟩ := I.l1 (by rw [← hl' 1 (by decide)]; exact hl); exact ⟨b2, k1, k2, k3.mv (Below.heap_setCell _ _ _ _ (blk_ne k3.hp h3 (by decide)))⟩), l3 := (fun hl => by obtain ⟨b2, k1, k2, k3⟩ := I.l3 (by rw [← hl' 3 (by decide)]; exact hl); exact ⟨b2, k1, k2, k3.mv (Below.heap_setCell _ _ _ _ (blk_ne k3.hp h3 (by decide)))⟩), l5 := (fun hl => by obtain ⟨b2, k1, k2, k3⟩ := I.l5 (by rw [← hl' 5 (by decide)]; exact hl); exact ⟨b2, k1, k2, k3.mv (Below.heap_setCell _ _ _ _ (blk_ne k3.hp h3 (by decide)))⟩), l6 := (fun hl => by obtain ⟨p2, v2, k1, k2, k3, k4⟩ := I.l6 (by rw [← hl' 6 (by decide)]; exact hl); exact ⟨p2, v2, k1, k2, (Below.heap_setCell _ _ _ _ (blk_ne k3 h3 (by decide))).trans k3, fun hl2 => k4 (by rw [← hl' 9 (by decide)]; exact hl2)⟩), l7 := (fun _ => ⟨p, _, rfl, hp, set_one h3 _, fun _ => rfl⟩), l8 := (fun hl => by obtain ⟨p2, v2, k1, k2, k3, k4⟩ := I.l8 (by rw [← hl' 8 (by decide)]; exact hl); exact ⟨p2, v2, k1, k2, (Below.heap_setCell _ _ _ _ (blk_ne k3 h3 (by decide))).trans k3, fun hl2 => k4 (by rw [← hl' 11 (by decide)]; exact hl2)⟩), c9 := (fun hl => ⟨by first | (rw [hl' 1 (by decide)]; exact (I.c9 (by rw [← hl' 9 (by decide)]; exact hl)).1) | simp [hsz], by first | (rw [hl' 6 (by decide)]; exact (I.c9 (by rw [← hl' 9 (by decide)]; exact hl)).2) | simp [hsz]⟩), c10 := (fun _ => ⟨by rw [hl' 3 (by decide)]; exact hd1, by rw [hl' 7 (by decide)]; exact hd2⟩), c11 := (fun hl => ⟨by first | (rw [hl' 5 (by decide)]; exact (I.c11 (by rw [← hl' 11 (by decide)]; exact hl)).1) | simp [hsz], by first | (rw [hl' 8 (by decide)]; exact (I.c11 (by rw [← hl' 11 (by decide)]; exact hl)).2) | simp [hsz]⟩) }⟩
    | 11, ho =>
      obtain rfl := Option.some.inj ho
      have hd1 := hall ⟨5, .data⟩ (by simp) (by rfl)
      have hd2 := hall ⟨8, .data⟩ (by simp) (by rfl)
      obtain ⟨b, rfl, hb, hA⟩ := I.l5 hd1
      obtain ⟨p, v, rfl, hp, h3, h4⟩ := I.l8 hd2
      have hcl : w.cell? ⟨p, 0, none⟩ = some v := by simp [World.cell?, h3]
      have hfr : w.frozen? ⟨p, 0, none⟩ = false := by simp [World.frozen?, h3]
      refine skip_ (w1 := w.setCell ⟨p, 0, none⟩ (.slice (some ⟨b, 0, none⟩) n n)) (by rfl) rfl (by unfold ofA; clear hl' hall hK I h4 h3; go_simp) ?_
      exact hK.out _ _ ⟨u13, u14, u16, u17, x6, x7, .pointer (some ⟨p, 0, none⟩), x18, x19, x20, x21, x22, .slice (some ⟨b, 0, none⟩) n n, rfl, { b := I.b.setCell hp _, l0 := (fun hl => I.l0 (by rw [← hl' 0 (by decide)]; exact hl)), l2 := (fun hl => I.l2 (by rw [← hl' 2 (by decide)]; exact hl)), l4 := (fun hl => I.l4 (by rw [← hl' 4 (by decide)]; exact hl)), l1 := (fun hl => by obtain ⟨b2, k1, k2, k3⟩ := I.l1 (by rw [← hl' 1 (by decide)]; exact hl); exact ⟨b2, k1, k2, k3.mv (Below.heap_setCell _ _ _ _ (blk_ne k3.hp h3 (by decide)))⟩), l3 := (fun hl => by obtain ⟨b2, k1, k2, k3⟩ := I.l3 (by rw [← hl' 3 (by decide)]; exact hl); exact ⟨b2, k1, k2, k3.mv (Below.heap_setCell _ _ _ _ (blk_ne k3.hp h3 (by decide)))⟩), l5 := (fun hl => by obtain ⟨b2, k1, k2, k3⟩ := I.l5 (by rw [← hl' 5 (by decide)]; exact hl); exact ⟨b2, k1, k2, k3.mv (Below.heap_setCell _ _ _ _ (blk_ne k3.hp h3 (by decide)))⟩), l6 := (fun hl => by obtain ⟨p2, v2, k1, k2, k3, k4⟩ := I.l6 (by rw [← hl' 6 (by decide)]; exact hl); exact ⟨p2, v2, k1, k2, (Below.heap_setCell _ _ _ _ (blk_ne k3 h3 (by decide))).trans k3, fun hl2 => k4 (by rw [← hl' 9 (by decide)]; exact hl2)⟩), l7 := (fun hl => by obtain ⟨p2, v2, k1, k2, k3, k4⟩ := I.l7 (by rw [← hl' 7 (by decide)]; exact hl); exact ⟨p2, v2, k1, k2, (Below.heap_setCell _ _ _ _ (blk_ne k3 h3 (by decide))).trans k3, fun hl2 => k4 (by rw [← hl' 10 (by decide)]; exact hl2)⟩), l8 := (fun _ => ⟨p, _, rfl, hp, set_one h3 _, fun _ => rfl⟩), c9 := (fun hl => ⟨by first | (rw [hl' 1 (by decide)]; exact (I.c9 (by rw [← hl' 9 (by decide)]; exact hl)).1) | simp [hsz], by first | (rw [hl' 6 (by decide)]; exact (I.c9 (by rw [← hl' 9 (by decide)]; exact hl)).2) | simp [hsz]⟩), c10 := (fun hl => ⟨by first | (rw [hl' 3 (by decide)]; exact (I.c10 (by rw [← hl' 10 (by decide)]; exact hl)).1) | simp [hsz], by first | (rw [hl' 7 (by decide)]; exact (I.c10 (by rw [← hl' 10 (by decide)]; exact hl)).2) | simp [hsz]⟩), c11 := (fun _ => ⟨by rw [hl' 5 (by decide)]; exact hd1, by rw [hl' 8 (by decide)]; exact hd2⟩) }⟩
    | n + 12, ho => exact absurd ho (by simp)
  · rintro l a w1 hall ⟨u13, u14, u16, u17, x6, x7, x8, x18, x19, x20, x21, x22, x23, rfl, I⟩
    obtain ⟨b19, rfl, g1, g2⟩ := I.l1 (hall 1 (by omega))
    obtain ⟨b21, rfl, g3, g4⟩ := I.l3 (hall 3 (by omega))
    obtain ⟨b23, rfl, g5, g6⟩ := I.l5 (hall 5 (by omega))
    obtain ⟨p6, v6, rfl, g7, g8, g9⟩ := I.l6 (hall 6 (by omega))
    obtain ⟨p7, v7, rfl, g10, g11, g12⟩ := I.l7 (hall 7 (by omega))
    obtain ⟨p8, v8, rfl, g13, g14, g15⟩ := I.l8 (hall 8 (by omega))
    obtain rfl := g9 (hall 9 (by omega))
    obtain rfl := g12 (hall 10 (by omega))
    obtain rfl := g15 (hall 11 (by omega))
    have hB := I.b
    clear I hall g9 g12 g15
    simp only [Exit.then]
    apply_assumption
    unfold ofA
    dsimp only
  -- }REGION3
    have e6 : w1.cell? ⟨p6, 0, none⟩ = some (.slice (some ⟨b19, 0, none⟩) n n) := by simp [World.cell?, g8]
    have e7 : w1.cell? ⟨p7, 0, none⟩ = some (.slice (some ⟨b21, 0, none⟩) n n) := by simp [World.cell?, g11]
    have e8 : w1.cell? ⟨p8, 0, none⟩ = some (.slice (some ⟨b23, 0, none⟩) n n) := by simp [World.cell?, g14]
    replace g8 := hide g8; replace g11 := hide g11; replace g14 := hide g14
    have n7 : p7 ≠ b21 := blk_ne (unhide g11) g4.hp (by decide)
    gi_wp2_with fail
    gi_loopw [26] (fun s26 wr => ∃ j : Nat, j ≤ n ∧ s26 = .int .i64 j ∧ Below w0.heap.size w0 wr ∧ (∀ k, k ≠ b21 → wr.heap[k]? = w1.heap[k]?) ∧ Arr wr b21 34 3 (List.replicate j nP.arr ++ List.replicate (n - j) zP.arr)) (fun s26 _ => n - (intOf s26).toNat)
    case atStart => exact ⟨0, by omega, rfl, hB, fun _ _ => rfl, by simpa using g4⟩
    case round =>
      obtain ⟨j, hj, rfl, hsz, hkp, hA⟩ := hrel
      have e7r : wr.cell? ⟨p7, 0, none⟩ = some (.slice (some ⟨b21, 0, none⟩) n n) := (World.cell?_of_block (a := ⟨p7, 0, none⟩) (hkp p7 n7)).trans e7
      by_cases hjn : j < n
      · have hjI : (j : Int) < n := by omega
        have hlen : j < (List.replicate j nP.arr ++ List.replicate (n - j) zP.arr).length := by simp; omega
        have hel : (List.replicate j nP.arr ++ List.replicate (n - j) zP.arr)[j] = zP.arr := by
          rw [List.getElem_append_right (by simp)]
          simp
        have hcell : wr.cell? ⟨b21, j * 3, none⟩ = some (.int .i64 0) := by
          have := hA.cell hlen (m := 0) (by omega)
          rw [hel] at this
          exact this
        have hfr : wr.frozen? ⟨b21, j * 3, none⟩ = false := hA.frozen _
        have hA2 := hA.setCell hlen (m := 0) (by omega) (.int .i64 (-1))
        rw [hel, show zP.arr.setIfInBounds 0 (.int .i64 (-1)) = nP.arr from rfl, rep_step _ _ _ _ hjn] at hA2
        replace hel := hide hel
        clear hA
        gi_wp2_with fail
        go_roundw
        case rel => exact ⟨j + 1, by omega, by go_num, hsz.setCell g3 _, fun k hk => (Below.heap_setCell _ _ _ _ hk).trans (hkp k hk), hA2⟩
        case measure => simp [intOf]; omega
      · obtain rfl : n = j := by omega
        rw [Nat.sub_self, List.replicate_zero, List.append_nil] at hA
        have hbW : Below w.heap.size w wr := hb0.trans (hsz.mono (by rw [unhide hz0]; omega))
        have f6 : wr.heap[p6]? = _ := (hkp p6 (blk_ne (unhide g8) g4.hp (by decide))).trans (unhide g8)
        have f7 : wr.heap[p7]? = _ := (hkp p7 n7).trans (unhide g11)
        have f8 : wr.heap[p8]? = _ := (hkp p8 (blk_ne (unhide g14) g4.hp (by decide))).trans (unhide g14)
        have k19 : b19 ≠ b21 := blk_ne g2.hp g4.hp (by decide)
        have k23 : b23 ≠ b21 := blk_ne g6.hp g4.hp (by decide)
        have a19 := g2.mv (hkp b19 k19)
        have a23 := g6.mv (hkp b23 k23)
        have f3 := (hsz.block b3 hb3).trans (unhide hb3h)
        obtain ⟨i1, i2, i3⟩ := inits n
        rw [← i1] at a19
        rw [← i2] at hA
        rw [← i3] at a23
        clear i1 i2 i3 e6 e7 e8 e7r
        gi_wp2_with fail
        refine (callsIn_wide.2 (all_any A T.length c _)).mono ?_
        rintro e w2 ⟨rfl, rfl⟩
        gi_wp2_with fail
        obtain ⟨W2, hW2⟩ : ∃ W2, wr.alloc (Obj.cells #[Value.slice A T.length c] 25) = W2 := ⟨_, rfl⟩
        rw [hW2]
        have z2 : W2.heap.size = wr.heap.size + 1 := by rw [← hW2]; simp
        have hJ0 : OfJ w n (wr.heap.size + 1) b3 p6 p7 p8 b19 b21 b23 [] W2 := by
          have : OfJ w n wr.heap.size b3 p6 p7 p8 b19 b21 b23 [] wr := ⟨hbW, Nat.le_refl _, f3, f6, f7, f8, a19, hA, a23⟩
          have := this.below (W' := W2) (by rw [← hW2]; exact (Below.refl _ _).alloc (Nat.le_refl _) _)
          exact { this with z := by omega }
        have fl : W2.heap[wr.heap.size]? = some (.cells #[.slice A T.length c] 25 (0, 0)) := by rw [← hW2]; exact heap_alloc_new _ _
        have hw0 : w.heap.size < w0.heap.size := by rw [unhide hz0]; omega
        have hzr := hbW.size
        have l19 := a19.lt
        have l21 := hA.lt
        have l23 := a23.lt
        have hs2 := hs.below hJ0.b
        clear hW2 f3 f6 f7 f8 a19 a23 hA hkp g2 g4 g6 hsz hB
        replace z2 := hide z2
        refine range_c (gf := 19) rfl (fun _ _ => rfl) (all_c (fun k => k = b19 ∨ k = b21 ∨ k = b23) wr.heap.size w.heap.size (wr.heap.size + 1) A c T (by omega) (by omega) (by omega) (by rintro k (rfl | rfl | rfl) <;> omega) hsm W2 fl hs2 (by rw [unhide z2]; omega))
          (fun h k => h.trans k) (fun W l o o' hl h h2 _ => ⟨by simp [World.putObj], fun k o2 hk hc2 _ => (World.putObj_heap_other (fun e => by subst e; rw [h] at hk; cases hk; rw [h2] at hc2; cases hc2)).trans hk⟩) (fun A B h => ⟨h.size, fun k o hk _ => (h.block k (Array.getElem?_eq_some_iff.1 hk).1).trans hk⟩) (Below.refl _ _) (fun _ => rfl)
          (fun pre W => OfJ w n (wr.heap.size + 1) b3 p6 p7 p8 b19 b21 b23 pre W) (fun _ _ _ => False) ?_ ?_ ?_ ?_ hJ0 ?_ ?_ ?_
        · rintro pre X Y row h hg hr
          exact h.grow hg (fun r e => ⟨by have := (hr r e).1; rw [unhide z2] at this; omega, (hr r e).2⟩)
        · intro c s W W' row h; exact h.elim
        · rintro pre X Y hs h
          exact h.below hs
        · intro c pre A B _ h; exact h
        · rintro l pre u W hI hlen hsp hsz
          have hun := hide (ups_mem (hsp.subset (by simp : u ∈ pre ++ [u])))
          gi_wp2_with fail
          have hWz : wr.heap.size + 1 + 1 < W.heap.size := by rw [← unhide z2]; exact hsz
          refine ⟨KeepsOthers.alloc _ _, KpO.of_below ((Below.refl W.heap.size W).alloc (Nat.le_refl _) _), fun X' => OfJ w n (wr.heap.size + 1) b3 p6 p7 p8 b19 b21 b23 pre X' ∧ X'.heap[W.heap.size]? = some (.cells u.arr 56 (0, 0)), ?_, ⟨hI.below ((Below.refl _ _).alloc (Nat.le_refl _) _), heap_alloc_new _ _⟩, ?_⟩
          · rintro Y Z row ⟨h1, h2⟩ hg hr
            refine ⟨h1.grow hg (fun r e => ⟨by have := (hr r e).1; rw [unhide z2] at this; omega, (hr r e).2⟩), (hg.block _ (Array.getElem?_eq_some_iff.1 h2).1 (fun e => ?_)).trans h2⟩
            obtain ⟨_, o, ho, hc⟩ := hr _ e.symm
            rw [h2] at ho
            cases ho
            simp [Obj.isCells] at hc
          rintro W₂ ⟨hI2, hX2⟩ hz2
          have hl2 : W.heap.size < W₂.heap.size := (Array.getElem?_eq_some_iff.1 hX2).1
          have hcu : ∀ m, W₂.cell? ⟨W.heap.size, m, none⟩ = u.arr[m]? := fun m => by simp [World.cell?, hX2]
          have c1 : W₂.cell? ⟨W.heap.size, 1, none⟩ = some (.int .i64 u.e.l) := (hcu 1).trans u.at1.1
          have c2 : W₂.cell? ⟨W.heap.size, 2, none⟩ = some (.int .i64 u.e.s) := (hcu 2).trans u.at1.2.1
          have c22 : W₂.cell? ⟨W.heap.size, 22, none⟩ = some (.int .i64 u.ser) := (hcu 22).trans u.at1.2.2
          have c3 : W₂.cell? ⟨b3, 0, none⟩ = some (.int .i64 n) := by simp [World.cell?, hI2.h3]
          have c6 : W₂.cell? ⟨p6, 0, none⟩ = some (.slice (some ⟨b19, 0, none⟩) n n) := by simp [World.cell?, hI2.h6]
          have c7 : W₂.cell? ⟨p7, 0, none⟩ = some (.slice (some ⟨b21, 0, none⟩) n n) := by simp [World.cell?, hI2.h7]
          have c8 : W₂.cell? ⟨p8, 0, none⟩ = some (.slice (some ⟨b23, 0, none⟩) n n) := by simp [World.cell?, hI2.h8]
          have hko : KeepsOthers W₂ W₂ := ⟨Nat.le_refl _, fun _ _ h _ => h⟩
          replace hX2 := hide hX2
          replace hcu := hide hcu
          replace hz2 := hide hz2
          by_cases hr : 0 ≤ u.e.l ∧ u.e.l < n
          · obtain ⟨k, hk⟩ : ∃ k : Nat, u.e.l = k := ⟨u.e.l.toNat, by omega⟩
            have hkn : k < n := by omega
            have hkI : (k : Int) < n := by omega
            have hkI0 : ¬ (k : Int) < 0 := by omega
            rw [hk] at c1
            replace hk := hide hk
            clear hr
            obtain ⟨su, hsu⟩ : ∃ su, su = (oP (best (k : Int) pre)).su := ⟨_, rfl⟩
            obtain ⟨os, hos⟩ : ∃ os, os = (oE (best (k : Int) pre)).s := ⟨_, rfl⟩
            obtain ⟨osr, hosr⟩ : ∃ osr, osr = oS (best (k : Int) pre) := ⟨_, rfl⟩
            have hNw : newer u (best (k : Int) pre) ↔ su < 0 ∨ os < u.e.s ∨ (u.e.s = os ∧ osr < u.ser) := by
              rw [hsu, hos, hosr]
              cases hbo : best (k : Int) pre with
              | none => exact ⟨fun _ => .inl (by show (-1 : Int) < 0; omega), fun _ => trivial⟩
              | some v =>
                obtain ⟨i, _, hi, _⟩ := ups_mem (hsp.subset (List.mem_append_left _ (best_mem hbo).1))
                show (v.e.s < u.e.s ∨ (u.e.s = v.e.s ∧ v.ser < u.ser)) ↔ (v.p.su < 0 ∨ v.e.s < u.e.s ∨ (u.e.s = v.e.s ∧ v.ser < u.ser))
                omega
            have d21 : W₂.cell? ⟨b21, k * 3, none⟩ = some (.int .i64 su) := by
              have := hI2.a21.cell (k := k) (m := 0) (by simp [plL_len]; exact hkn) (by omega)
              rw [hsu]
              simp [plL] at this
              exact this
            have d19 : W₂.cell? ⟨b19, k * 19 + 2, none⟩ = some (.int .i64 os) := by
              have := hI2.a19.cell (k := k) (m := 2) (by simp [esL_len]; exact hkn) (by omega)
              rw [hos]
              simp [esL] at this
              exact this
            have hsq3 : (seL n pre)[k]'(by rw [seL_len]; exact hkn) = osr := by rw [hosr]; simp [seL]
            have d23 : W₂.cell? ⟨b23, k, none⟩ = some (.int .i64 osr) := by
              have := hI2.a23.cell (k := k) (m := 0) (by simp [seL_len]; exact hkn) (by omega)
              rw [← hsq3]
              simpa using this
            replace hsq3 := hide hsq3
            replace hNw := hide hNw
            clear hsu hos hosr
            have hskip : ¬ newer u (best (k : Int) pre) → OfJ w n (wr.heap.size + 1) b3 p6 p7 p8 b19 b21 b23 (pre ++ [u]) W₂ := fun hno => by
              have hK := keeps n pre u (fun k' hk' e hn' => hno (by have : k' = k := by have := unhide hk; omega
                                                                    subst this; exact hn'))
              refine { hI2 with a19 := ?_, a21 := ?_, a23 := ?_ }
              · rw [hK.1]; exact hI2.a19
              · rw [hK.2.1]; exact hI2.a21
              · rw [hK.2.2]; exact hI2.a23
            have hdr : ∀ nq pre', OfJ w n (wr.heap.size + 1) b3 p6 p7 p8 b19 b21 b23 pre' W₂ → OfJ w n (wr.heap.size + 1) b3 p6 p7 p8 b19 b21 b23 pre' (W₂.drewN nq) := fun nq pre' h => h.below ⟨rfl, rfl, rfl, Nat.le_refl _, fun _ _ => rfl⟩
            have hkd : ∀ nq, KeepsOthers W₂ (W₂.drewN nq) ∧ KpO (fun k => k = b19 ∨ k = b21 ∨ k = b23) W₂ (W₂.drewN nq) := fun nq => ⟨⟨Nat.le_refl _, fun _ _ h _ => h⟩, ⟨Nat.le_refl _, fun _ _ h _ _ => h⟩⟩
            by_cases hnew : su < 0 ∨ os < u.e.s ∨ (u.e.s = os ∧ osr < u.ser)
            · have hc3 : decide (su < 0) = true ∨ (decide (su < 0) = false ∧ decide (os < u.e.s) = true) ∨ (decide (su < 0) = false ∧ decide (os < u.e.s) = false ∧ (u.e.s == os) = true ∧ decide (osr < u.ser) = true) := by
                by_cases q1 : su < 0
                · exact .inl (decide_eq_true q1)
                · by_cases q2 : os < u.e.s
                  · exact .inr (.inl ⟨decide_eq_false q1, decide_eq_true q2⟩)
                  · obtain ⟨q3, q4⟩ : u.e.s = os ∧ osr < u.ser := by omega
                    exact .inr (.inr ⟨decide_eq_false q1, decide_eq_false q2, by simpa using q3, decide_eq_true q4⟩)
              have hnn := (unhide hNw).2 hnew
              have hset := sets n k pre u hkn (unhide hk) hnn
              replace hnn := hide hnn
              replace hset := hide hset
              clear hnew hskip
              rcases hc3 with q1b | ⟨q1b, q2b⟩ | ⟨q1b, q2b, q3b, q4b⟩
              all_goals
                gi_wp2_with fail
                refine quietIn_ (by kernel_rfl) (by kernel_rfl) (by kernel_rfl) ?hQ ?_
                case hQ => rintro ⟨_, _, h⟩; exact h
                repeat (go_big_quiet_step (fail))
                refine wpQuiet_nil ?_
                rintro _ ⟨nq, rfl⟩
                simp only [Exit.then]
                apply_assumption
                gi_wp2_with fail
              all_goals
              have hIq := hdr nq _ hI2
              obtain ⟨W3, hW3⟩ : ∃ W3, W3 = (W₂.drewN nq).drew := ⟨_, rfl⟩
              have a23 : Arr W3 b23 3 1 ((seL n pre).map fun x => #[Value.int .i64 x]) := by rw [hW3]; exact hI2.a23.mv rfl
              have a21 : Arr W3 b21 34 3 ((plL n pre).map Pl.arr) := by rw [hW3]; exact hI2.a21.mv rfl
              have a19 : Arr W3 b19 37 19 ((esL n pre).map Ent.arr) := by rw [hW3]; exact hI2.a19.mv rfl
              have hc19 : canW W3 b19 (k * 19) 19 = true := a19.canW (by simp [esL_len]; omega)
              have hc21 : canW W3 b21 (k * 3) 3 = true := a21.canW (by simp [plL_len]; omega)
              have n21 : b21 ≠ b19 := blk_ne a21.hp a19.hp (by decide)
              have n23 : b23 ≠ b19 := blk_ne a23.hp a19.hp (by decide)
              have n2123 : b21 ≠ b23 := blk_ne a21.hp a23.hp (by decide)
              have keep0 : (W3.cell? ⟨p6, 0, none⟩ = some (.slice (some ⟨b19, 0, none⟩) n n) ∧ W3.cell? ⟨p7, 0, none⟩ = some (.slice (some ⟨b21, 0, none⟩) n n) ∧ W3.cell? ⟨p8, 0, none⟩ = some (.slice (some ⟨b23, 0, none⟩) n n) ∧ rd W3 W.heap.size 0 19 = some u.e.arr ∧ rd W3 W.heap.size 19 3 = some u.p.arr ∧ W3.cell? ⟨W.heap.size, 22, none⟩ = some (.int .i64 u.ser)) := by
                rw [hW3]
                refine ⟨c6, c7, c8, ?_, ?_, c22⟩
                · have : rd W₂ W.heap.size 0 19 = some u.e.arr := by unfold rd; rw [unhide hX2]; simp [U.arr_size, u.parts.1]
                  exact this
                · have : rd W₂ W.heap.size 19 3 = some u.p.arr := by unfold rd; rw [unhide hX2]; simp [U.arr_size, u.parts.2]
                  exact this
              have q19 : p6 ≠ b19 ∧ p6 ≠ b21 ∧ p6 ≠ b23 := ⟨blk_ne hI2.h6 hI2.a19.hp (by decide), blk_ne hI2.h6 hI2.a21.hp (by decide), blk_ne hI2.h6 hI2.a23.hp (by decide)⟩
              have q21 : p7 ≠ b19 ∧ p7 ≠ b21 ∧ p7 ≠ b23 := ⟨blk_ne hI2.h7 hI2.a19.hp (by decide), blk_ne hI2.h7 hI2.a21.hp (by decide), blk_ne hI2.h7 hI2.a23.hp (by decide)⟩
              have q23 : p8 ≠ b19 ∧ p8 ≠ b21 ∧ p8 ≠ b23 := ⟨blk_ne hI2.h8 hI2.a19.hp (by decide), blk_ne hI2.h8 hI2.a21.hp (by decide), blk_ne hI2.h8 hI2.a23.hp (by decide)⟩
              clear c6 c7 c8 c22 d19 d21 d23 c1 c2 c3
              -- REGION14{
              refine startIn_ (n := 18) (S := fun w' => w'.cell? ⟨p6, 0, none⟩ = some (.slice (some ⟨b19, 0, none⟩) n n) ∧ w'.cell? ⟨p7, 0, none⟩ = some (.slice (some ⟨b21, 0, none⟩) n n) ∧ w'.cell? ⟨p8, 0, none⟩ = some (.slice (some ⟨b23, 0, none⟩) n n) ∧ rd w' W.heap.size 0 19 = some u.e.arr ∧ rd w' W.heap.size 19 3 = some u.p.arr ∧ w'.cell? ⟨W.heap.size, 22, none⟩ = some (.int .i64 u.ser)) (ds := []) #[false, false, false, false, false, false, false, false, false, false, false, false, false, false, false, false, false, false] (by kernel_rfl) (by kernel_rfl) ?hQ rfl rfl (by rw [← hW3]; exact keep0) (fun hHeld => ?_)
              case hQ => rintro ⟨_, _, h⟩; exact h
              clear hHeld
              rw [← hW3]
              replace hW3 := hide hW3
              have hHeld := keep0
              have hS : ∀ X : World, (∀ j, j ≠ b19 → j ≠ b21 → j ≠ b23 → X.heap[j]? = W3.heap[j]?) → X.cell? ⟨p6, 0, none⟩ = some (.slice (some ⟨b19, 0, none⟩) n n) ∧ X.cell? ⟨p7, 0, none⟩ = some (.slice (some ⟨b21, 0, none⟩) n n) ∧ X.cell? ⟨p8, 0, none⟩ = some (.slice (some ⟨b23, 0, none⟩) n n) ∧ rd X W.heap.size 0 19 = some u.e.arr ∧ rd X W.heap.size 19 3 = some u.p.arr ∧ X.cell? ⟨W.heap.size, 22, none⟩ = some (.int .i64 u.ser) := fun X hX => by
                have e10 := hX W.heap.size (by omega) (by omega) (by omega)
                exact ⟨(World.cell?_of_block (a := ⟨p6, 0, none⟩) (hX _ q19.1 q19.2.1 q19.2.2)).trans keep0.1, (World.cell?_of_block (a := ⟨p7, 0, none⟩) (hX _ q21.1 q21.2.1 q21.2.2)).trans keep0.2.1, (World.cell?_of_block (a := ⟨p8, 0, none⟩) (hX _ q23.1 q23.2.1 q23.2.2)).trans keep0.2.2.1, (rd_congr e10 _ _).trans keep0.2.2.2.1, (rd_congr e10 _ _).trans keep0.2.2.2.2.1, (World.cell?_of_block (a := ⟨W.heap.size, 22, none⟩) e10).trans keep0.2.2.2.2.2⟩
              refine take_ (i := 0) (N := some 84) (v := ?_) (a' := ?_) #[true, false, false, false, false, false, false, false, false, false, false, false, false, false, false, false, false, false] rfl rfl (by kernel_rfl) (fun _ _ _ h => h) (Or.inl ⟨by rfl, ?_⟩) hHeld ?_ ?_
              rotate_left
              · intro w' hs_; obtain ⟨s0, s1, s2, s3, s4, s5⟩ := hs_
                go_simp
                with_reducible rfl
              rotate_left
              · simp only [Act.put, List.setIfInBounds_toArray, List.set_cons_zero, List.set_cons_succ, i64_w, i32_w]
                rfl
              refine pure_ (i := 1) (N := some 85) (v := ?_) (a' := ?_) #[true, true, false, false, false, false, false, false, false, false, false, false, false, false, false, false, false, false] rfl rfl (by kernel_rfl) (fun _ _ _ h => h) (Or.inl ⟨by rfl, ?_⟩) ?_ ?_
              rotate_left
              · intro w'
                go_simp
                with_reducible rfl
              rotate_left
              · simp only [Act.put, List.setIfInBounds_toArray, List.set_cons_zero, List.set_cons_succ, i64_w, i32_w]
                rfl
              refine take_ (i := 2) (N := some 86) (v := ?_) (a' := ?_) #[true, true, true, false, false, false, false, false, false, false, false, false, false, false, false, false, false, false] rfl rfl (by kernel_rfl) (fun _ _ _ h => h) (Or.inl ⟨by rfl, ?_⟩) hHeld ?_ ?_
              rotate_left
              · intro w' hs_; obtain ⟨s0, s1, s2, s3, s4, s5⟩ := hs_
                go_simp
                with_reducible rfl
              rotate_left
              · simp only [Act.put, List.setIfInBounds_toArray, List.set_cons_zero, List.set_cons_succ, i64_w, i32_w]
                rfl
              refine pure_ (i := 3) (N := some 87) (v := ?_) (a' := ?_) #[true, true, true, true, false, false, false, false, false, false, false, false, false, false, false, false, false, false] rfl rfl (by kernel_rfl) (fun _ _ _ h => h) (Or.inl ⟨by rfl, ?_⟩) ?_ ?_
              rotate_left
              · intro w'
                go_simp
                with_reducible rfl
              rotate_left
              · simp only [Act.put, List.setIfInBounds_toArray, List.set_cons_zero, List.set_cons_succ, i64_w, i32_w]
                rfl
              refine take_ (i := 4) (N := some 88) (v := ?_) (a' := ?_) #[true, true, true, true, true, false, false, false, false, false, false, false, false, false, false, false, false, false] rfl rfl (by kernel_rfl) (fun _ _ _ h => h) (Or.inl ⟨by rfl, ?_⟩) hHeld ?_ ?_
              rotate_left
              · intro w' hs_; obtain ⟨s0, s1, s2, s3, s4, s5⟩ := hs_
                go_simp
                with_reducible rfl
              rotate_left
              · simp only [Act.put, List.setIfInBounds_toArray, List.set_cons_zero, List.set_cons_succ, i64_w, i32_w]
                rfl
              refine pure_ (i := 5) (N := some 89) (v := ?_) (a' := ?_) #[true, true, true, true, true, true, false, false, false, false, false, false, false, false, false, false, false, false] rfl rfl (by kernel_rfl) (fun _ _ _ h => h) (Or.inl ⟨by rfl, ?_⟩) ?_ ?_
              rotate_left
              · intro w'
                go_simp
                with_reducible rfl
              rotate_left
              · simp only [Act.put, List.setIfInBounds_toArray, List.set_cons_zero, List.set_cons_succ, i64_w, i32_w]
                rfl
              refine pure_ (i := 6) (N := some 90) (v := ?_) (a' := ?_) #[true, true, true, true, true, true, true, false, false, false, false, false, false, false, false, false, false, false] rfl rfl (by kernel_rfl) (fun _ _ _ h => h) (Or.inl ⟨by rfl, ?_⟩) ?_ ?_
              rotate_left
              · intro w'
                go_simp
                with_reducible rfl
              rotate_left
              · simp only [Act.put, List.setIfInBounds_toArray, List.set_cons_zero, List.set_cons_succ, i64_w, i32_w]
                rfl
              refine take_ (i := 7) (N := some 91) (v := ?_) (a' := ?_) #[true, true, true, true, true, true, true, true, false, false, false, false, false, false, false, false, false, false] rfl rfl (by kernel_rfl) (fun _ _ _ h => h) (Or.inl ⟨by rfl, ?_⟩) hHeld ?_ ?_
              rotate_left
              · intro w' hs_; obtain ⟨s0, s1, s2, s3, s4, s5⟩ := hs_
                go_simp
                with_reducible rfl
              rotate_left
              · simp only [Act.put, List.setIfInBounds_toArray, List.set_cons_zero, List.set_cons_succ, i64_w, i32_w]
                rfl
              refine pure_ (i := 8) (N := some 92) (v := ?_) (a' := ?_) #[true, true, true, true, true, true, true, true, true, false, false, false, false, false, false, false, false, false] rfl rfl (by kernel_rfl) (fun _ _ _ h => h) (Or.inl ⟨by rfl, ?_⟩) ?_ ?_
              rotate_left
              · intro w'
                go_simp
                with_reducible rfl
              rotate_left
              · simp only [Act.put, List.setIfInBounds_toArray, List.set_cons_zero, List.set_cons_succ, i64_w, i32_w]
                rfl
              refine take_ (i := 9) (N := some 93) (v := ?_) (a' := ?_) #[true, true, true, true, true, true, true, true, true, true, false, false, false, false, false, false, false, false] rfl rfl (by kernel_rfl) (fun _ _ _ h => h) (Or.inl ⟨by rfl, ?_⟩) hHeld ?_ ?_
              rotate_left
              · intro w' hs_; obtain ⟨s0, s1, s2, s3, s4, s5⟩ := hs_
                go_simp
                with_reducible rfl
              rotate_left
              · simp only [Act.put, List.setIfInBounds_toArray, List.set_cons_zero, List.set_cons_succ, i64_w, i32_w]
                rfl
              refine pure_ (i := 10) (N := some 94) (v := ?_) (a' := ?_) #[true, true, true, true, true, true, true, true, true, true, true, false, false, false, false, false, false, false] rfl rfl (by kernel_rfl) (fun _ _ _ h => h) (Or.inl ⟨by rfl, ?_⟩) ?_ ?_
              rotate_left
              · intro w'
                go_simp
                with_reducible rfl
              rotate_left
              · simp only [Act.put, List.setIfInBounds_toArray, List.set_cons_zero, List.set_cons_succ, i64_w, i32_w]
                rfl
              refine take_ (i := 11) (N := some 95) (v := ?_) (a' := ?_) #[true, true, true, true, true, true, true, true, true, true, true, true, false, false, false, false, false, false] rfl rfl (by kernel_rfl) (fun _ _ _ h => h) (Or.inl ⟨by rfl, ?_⟩) hHeld ?_ ?_
              rotate_left
              · intro w' hs_; obtain ⟨s0, s1, s2, s3, s4, s5⟩ := hs_
                go_simp
                with_reducible rfl
              rotate_left
              · simp only [Act.put, List.setIfInBounds_toArray, List.set_cons_zero, List.set_cons_succ, i64_w, i32_w]
                rfl
              refine pure_ (i := 12) (N := some 96) (v := ?_) (a' := ?_) #[true, true, true, true, true, true, true, true, true, true, true, true, true, false, false, false, false, false] rfl rfl (by kernel_rfl) (fun _ _ _ h => h) (Or.inl ⟨by rfl, ?_⟩) ?_ ?_
              rotate_left
              · intro w'
                go_simp
                with_reducible rfl
              rotate_left
              · simp only [Act.put, List.setIfInBounds_toArray, List.set_cons_zero, List.set_cons_succ, i64_w, i32_w]
                rfl
              refine one_ (i := 13) (N := none) #[true, true, true, true, true, true, true, true, true, true, true, true, true, true, false, false, false, false] rfl rfl (by kernel_rfl) (by decide) (fun K hK => ?_)
              refine skip_ (w1 := Base.wr W3 b19 (k * 19) u.e.arr) (by rfl) rfl (by go_simp) ?_
              refine hK.out _ _ (hS _ (fun j h1 _ _ => heap_wr_other b19 _ _ _ j h1)) (fun hHeld => ?_)
              clear hK K hHeld
              obtain ⟨W4, hW4⟩ : ∃ W4, W4 = Base.wr W3 b19 (k * 19) u.e.arr := ⟨_, rfl⟩
              rw [← hW4]
              have o4 : ∀ j, j ≠ b19 → W4.heap[j]? = W3.heap[j]? := fun j hj => by rw [hW4]; exact heap_wr_other b19 _ _ _ j hj
              have hc4 : canW W4 b21 (k * 3) 3 = true := by rw [hW4]; exact (canW_wr_other _ _ _ _ _ _ _ n21).trans hc21
              replace hW4 := hide hW4
              refine pure_ (i := 14) (N := some 97) (v := ?_) (a' := ?_) #[true, true, true, true, true, true, true, true, true, true, true, true, true, true, true, false, false, false] rfl rfl (by kernel_rfl) (fun _ _ _ h => h) (Or.inl ⟨by rfl, ?_⟩) ?_ ?_
              rotate_left
              · intro w'
                go_simp
                with_reducible rfl
              rotate_left
              · simp only [Act.put, List.setIfInBounds_toArray, List.set_cons_zero, List.set_cons_succ, i64_w, i32_w]
                rfl
              refine one_ (i := 15) (N := none) #[true, true, true, true, true, true, true, true, true, true, true, true, true, true, true, true, false, false] rfl rfl (by kernel_rfl) (by decide) (fun K hK => ?_)
              refine skip_ (w1 := Base.wr W4 b21 (k * 3) u.p.arr) (by rfl) rfl (by go_simp) ?_
              refine hK.out _ _ (hS _ (fun j h1 h2 _ => (heap_wr_other b21 _ _ _ j h2).trans (o4 j h1))) (fun hHeld => ?_)
              clear hK K hHeld
              obtain ⟨W5, hW5⟩ : ∃ W5, W5 = Base.wr W4 b21 (k * 3) u.p.arr := ⟨_, rfl⟩
              rw [← hW5]
              have o5 : ∀ j, j ≠ b21 → W5.heap[j]? = W4.heap[j]? := fun j hj => by rw [hW5]; exact heap_wr_other b21 _ _ _ j hj
              have hA5 : Arr W5 b23 3 1 ((seL n pre).map fun x => #[Value.int .i64 x]) := a23.mv ((o5 b23 (Ne.symm n2123)).trans (o4 b23 n23))
              have hc5 : W5.cell? ⟨b23, k, none⟩ = some (.int .i64 osr) := by
                have := hA5.cell (k := k) (m := 0) (by simp [seL_len]; exact hkn) (by omega)
                simpa [unhide hsq3] using this
              have hf5 : W5.frozen? ⟨b23, k, none⟩ = false := hA5.frozen _
              replace hW5 := hide hW5
              replace hA5 := hide hA5
              refine pure_ (i := 16) (N := some 98) (v := ?_) (a' := ?_) #[true, true, true, true, true, true, true, true, true, true, true, true, true, true, true, true, true, false] rfl rfl (by kernel_rfl) (fun _ _ _ h => h) (Or.inl ⟨by rfl, ?_⟩) ?_ ?_
              rotate_left
              · intro w'
                go_simp
                with_reducible rfl
              rotate_left
              · simp only [Act.put, List.setIfInBounds_toArray, List.set_cons_zero, List.set_cons_succ, i64_w, i32_w]
                rfl
              refine one_ (i := 17) (N := none) #[true, true, true, true, true, true, true, true, true, true, true, true, true, true, true, true, true, true] rfl rfl (by kernel_rfl) (by decide) (fun K hK => ?_)
              refine skip_ (w1 := W5.setCell ⟨b23, k, none⟩ (.int .i64 u.ser)) (by rfl) rfl (by go_simp) ?_
              refine hK.out _ _ (hS _ (fun j h1 h2 h3 => (Below.heap_setCell _ _ _ j h3).trans ((o5 j h2).trans (o4 j h1)))) (fun hHeld => ?_)
              clear hK K hHeld
              refine done_ (by kernel_rfl) ?_
              -- }REGION14
              have o6 : ∀ j, j ≠ b23 → (W5.setCell ⟨b23, k, none⟩ (.int .i64 u.ser)).heap[j]? = W5.heap[j]? := fun j hj => Below.heap_setCell _ _ _ j hj
              have o3 : ∀ j : Nat, W3.heap[j]? = W₂.heap[j]? := fun j => by rw [unhide hW3]; rfl
              have ho : ∀ j, j ≠ b19 → j ≠ b21 → j ≠ b23 → (W5.setCell ⟨b23, k, none⟩ (.int .i64 u.ser)).heap[j]? = W₂.heap[j]? := fun j h1 h2 h3 => (o6 j h3).trans ((o5 j h2).trans ((o4 j h1).trans (o3 j)))
              have hsz6 : (W5.setCell ⟨b23, k, none⟩ (.int .i64 u.ser)).heap.size = W₂.heap.size := by rw [size_set', unhide hW5, size_wr, unhide hW4, size_wr, unhide hW3]; rfl
              have hb6 : Below w.heap.size w (W5.setCell ⟨b23, k, none⟩ (.int .i64 u.ser)) := by
                have e3 : Below w.heap.size w W3 := by rw [unhide hW3]; exact hI2.b.trans ⟨rfl, rfl, rfl, Nat.le_refl _, fun _ _ => rfl⟩
                have e4 : Below w.heap.size w W4 := by rw [unhide hW4]; exact below_wr e3 (by omega) _ _
                have e5 : Below w.heap.size w W5 := by rw [unhide hW5]; exact below_wr e4 (by omega) _ _
                exact e5.setCell (by show w.heap.size ≤ b23; omega) _
              obtain ⟨t1, t2, t3⟩ := unhide hset
              have f19 : Arr (W5.setCell ⟨b23, k, none⟩ (.int .i64 u.ser)) b19 37 19 ((esL n (pre ++ [u])).map Ent.arr) := by
                have e4 : Arr W4 b19 37 19 (((esL n pre).map Ent.arr).set k u.e.arr) := by rw [unhide hW4]; exact a19.wr (by simp [esL_len]; exact hkn) (Ent.arr_size _)
                rw [t1, List.map_set]
                exact e4.mv ((o6 b19 (Ne.symm n23)).trans (o5 b19 (Ne.symm n21)))
              have f21 : Arr (W5.setCell ⟨b23, k, none⟩ (.int .i64 u.ser)) b21 34 3 ((plL n (pre ++ [u])).map Pl.arr) := by
                have e5 : Arr W5 b21 34 3 (((plL n pre).map Pl.arr).set k u.p.arr) := by rw [unhide hW5]; exact (a21.mv (o4 b21 n21)).wr (by simp [plL_len]; exact hkn) rfl
                rw [t2, List.map_set]
                exact e5.mv (o6 b21 n2123)
              have f23 : Arr (W5.setCell ⟨b23, k, none⟩ (.int .i64 u.ser)) b23 3 1 ((seL n (pre ++ [u])).map fun x => #[Value.int .i64 x]) := by
                have e6 := (unhide hA5).setCell (k := k) (m := 0) (by simp [seL_len]; exact hkn) (by omega) (.int .i64 u.ser)
                rw [Nat.mul_one, Nat.add_zero] at e6
                rw [t3, List.map_set]
                simpa using e6
              have q3 : b3 ≠ b19 ∧ b3 ≠ b21 ∧ b3 ≠ b23 := ⟨by omega, by omega, by omega⟩
              have hfin : KeepsOthers W₂ (W5.setCell ⟨b23, k, none⟩ (.int .i64 u.ser)) ∧ KpO (fun k => k = b19 ∨ k = b21 ∨ k = b23) W₂ (W5.setCell ⟨b23, k, none⟩ (.int .i64 u.ser)) ∧ OfJ w n (wr.heap.size + 1) b3 p6 p7 p8 b19 b21 b23 (pre ++ [u]) (W5.setCell ⟨b23, k, none⟩ (.int .i64 u.ser)) := by
                refine ⟨⟨Nat.le_of_eq hsz6.symm, fun j o hj hc => ?_⟩, ⟨Nat.le_of_eq hsz6.symm, fun j o hj _ hn => ?_⟩, ⟨hb6, by rw [hsz6]; exact hI2.z, (ho _ q3.1 q3.2.1 q3.2.2).trans hI2.h3, (ho _ q19.1 q19.2.1 q19.2.2).trans hI2.h6, (ho _ q21.1 q21.2.1 q21.2.2).trans hI2.h7, (ho _ q23.1 q23.2.1 q23.2.2).trans hI2.h8, f19, f21, f23⟩⟩
                · have nb : ∀ b t sz xs, Arr W₂ b t sz xs → j ≠ b := fun b t sz xs hA e => by
                    subst e
                    rw [hA.hp] at hj
                    cases hj
                    simp [Obj.isCells] at hc
                  exact (ho j (nb _ _ _ _ hI2.a19) (nb _ _ _ _ hI2.a21) (nb _ _ _ _ hI2.a23)).trans hj
                · exact (ho j (fun e => hn (.inl e)) (fun e => hn (.inr (.inl e))) (fun e => hn (.inr (.inr e)))).trans hj
              exact hfin
            · have hnn2 : ¬ newer u (best (k : Int) pre) := fun h => hnew ((unhide hNw).1 h)
              have q1 : ¬ su < 0 := fun h => hnew (.inl h)
              have q2 : ¬ os < u.e.s := fun h => hnew (.inr (.inl h))
              have q1b : decide (su < 0) = false := decide_eq_false q1
              rcases Classical.em (u.e.s = os) with q3 | q3
              · have q4 : ¬ osr < u.ser := fun h => hnew (.inr (.inr ⟨q3, h⟩))
                have q2b : decide (os < os) = false := by simp
                rw [q3] at c2
                have q4b : decide (osr < u.ser) = false := decide_eq_false q4
                replace q3 := hide q3
                clear hnew
                gi_wp2_with fail
                refine quietIn_ (by kernel_rfl) (by kernel_rfl) (by kernel_rfl) ?hQ ?_
                case hQ => rintro ⟨_, _, h⟩; exact h
                repeat (go_big_quiet_step (fail))
                refine wpQuiet_nil ?_
                rintro _ ⟨nq, rfl⟩
                simp only [Exit.then]
                apply_assumption
                gi_wp2_with fail
                all_goals exact ⟨(hkd nq).1, (hkd nq).2, hdr nq _ (hskip hnn2)⟩
              · clear hnew
                have q2b : decide (os < u.e.s) = false := decide_eq_false q2
                have q3b : (u.e.s == os) = false := by simpa using q3
                gi_wp2_with fail
                refine quietIn_ (by kernel_rfl) (by kernel_rfl) (by kernel_rfl) ?hQ ?_
                case hQ => rintro ⟨_, _, h⟩; exact h
                repeat (go_big_quiet_step (fail))
                refine wpQuiet_nil ?_
                rintro _ ⟨nq, rfl⟩
                simp only [Exit.then]
                apply_assumption
                gi_wp2_with fail
                all_goals exact ⟨(hkd nq).1, (hkd nq).2, hdr nq _ (hskip hnn2)⟩
          · have hK := keeps n pre u (fun k hk e _ => hr (by omega))
            have hI3 : OfJ w n (wr.heap.size + 1) b3 p6 p7 p8 b19 b21 b23 (pre ++ [u]) W₂ := by
              refine { hI2 with a19 := ?_, a21 := ?_, a23 := ?_ }
              · rw [hK.1]; exact hI2.a19
              · rw [hK.2.1]; exact hI2.a21
              · rw [hK.2.2]; exact hI2.a23
            replace hK := hide hK
            gi_wp2_with fail
            all_goals exact ⟨hko, KpO.refl _ _, hI3⟩
        · rintro D xs W hDl rfl hI hD
          have c6 : W.cell? ⟨p6, 0, none⟩ = some (.slice (some ⟨b19, 0, none⟩) n n) := by simp [World.cell?, hI.h6]
          have c7 : W.cell? ⟨p7, 0, none⟩ = some (.slice (some ⟨b21, 0, none⟩) n n) := by simp [World.cell?, hI.h7]
          gi_wp2_with fail
          refine wpIn_wide.2 ?_
          go_quiet (fail)
          simp only [Exit.then]
          apply_assumption
          gi_wp2_with fail
          have hI' : OfJ w n (wr.heap.size + 1) b3 p6 p7 p8 b19 b21 b23 (ups T) (W.drewN nq) := hI.below ⟨rfl, rfl, rfl, Nat.le_refl _, fun _ _ => rfl⟩
          have hD' : (W.drewN nq).heap[D]? = some (.deferred (some [])) := hD
          have hI2 := hI'.grow (grownBy_putObj' (W.drewN nq) D (.deferred none)) (fun r e => by cases e; exact ⟨by rw [unhide z2] at hDl; omega, _, hD', rfl⟩)
          refine ⟨by simp, .inl ⟨_, _, rfl, run_takeDeferred hD', ?_⟩⟩
          exact ⟨_, results_tmp2 rfl _ _ _, ⟨b19, b21, rfl, hI2.a19.sl (by omega), hI2.a21.sl (by omega)⟩, hI2.b⟩
        · intro D c pre W _ _ h; exact h.elim
end Go.Proofs.Ytnihgfhaenpfkaa.Base
