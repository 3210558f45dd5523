/-
  ramekinlaw14.same of rows that are the same; a row of one's own, an element written.
-/
import Derived.Test.YtnihgfhaenpfkaaCt
namespace Go.Proofs.Ytnihgfhaenpfkaa.Base
open Go.RowKit Go.Proofs.YtnihgfhaenpfkaaW.PrintWords Go.Proofs.YtnihgfhaenpfkaaW.PrintLast
set_option linter.unusedSimpArgs false
set_option linter.unusedVariables false
attribute [local go_sem] Ent.arr0 Ent.arr1 Ent.arr2 Ent.set1 Ent.set2 Ent.arr_size Ent.okW Ent.lit run_ldV_ent run_stV_ent ldR_some stR_true rd_new_whole rd_alloc canW_new canW_alloc wr_new wr_alloc rd_drew rd_drewN canW_drew canW_drewN run_bsS_ent run_bsS_ent0 run_eqI_ent rd_setCell rd_setCell_same canW_setCell' Option.map_some cell_wr_other rd_wr_same rd_wr_other
attribute [local go_sem ↓] ldV_ent stV_ent bsS_ent eqI_ent
attribute [local go_sem] Ent.arr0g Ent.arr1g Ent.arr2g run_ldV_dat rd_dat run_eqI_dat dat_lit
attribute [local go_sem ↓] ldV_dat eqI_dat
set_option maxRecDepth 100000 in
set_option maxHeartbeats 1000000 in
theorem same14 (A1 A2 A3 A4 : Option Addr) (n c1 c2 c3 c4 : Nat) (es : List Ent) (ps : List Pl) (w : World) (hes : es.length = n) (hps : ps.length = n) (hn : n ≤ 1000)
    (h1 : Sl w 0 w.heap.size 19 A1 (es.map Ent.arr)) (h2 : Sl w 0 w.heap.size 19 A2 (es.map Ent.arr)) (h3 : Sl w 0 w.heap.size 3 A3 (ps.map Pl.arr)) (h4 : Sl w 0 w.heap.size 3 A4 (ps.map Pl.arr)) :
    Calls Try.prog 12 #[.slice A1 n c1, .slice A2 n c2, .slice A3 n c3, .slice A4 n c4] w fun x w' => x = .returned (.bool true) ∧ Below w.heap.size w w' := by
  replace hes := hide hes
  replace hps := hide hps
  go_enter Try.func12, Try.ntmps12
  go_wp2_with fail
  go_loopw [9] (fun s9 wr => ∃ a m : Nat, a ≤ n ∧ s9 = .int .i64 a ∧ wr = w.drewN m) (fun s9 _ => n - (intOf s9).toNat)
  case atStart => exact ⟨0, 0, by omega, rfl, rfl⟩
  case round =>
    obtain ⟨a, m, ha, rfl, rfl⟩ := hrel
    by_cases han : a < n
    · have haI : (a : Int) < n := by omega
      have hae : a < es.length := by rw [unhide hes]; exact han
      obtain ⟨b1, o1, rfl, _, _, r1⟩ := h1.at_ (k := a) (by simpa using hae)
      obtain ⟨b2, o2, rfl, _, _, r2⟩ := h2.at_ (k := a) (by simpa using hae)
      simp only [List.getElem_map] at r1 r2
      obtain ⟨X, hX⟩ : ∃ X, X = es[a] := ⟨_, rfl⟩
      rw [← hX] at r1 r2
      clear hX
      go_wp2_with fail
      refine wp_region_quiet_lit (by kernel_rfl) (by kernel_rfl) ?_
      iterate 9 (go_big_quiet_step (fail))
      refine wpQuiet_nil ?_
      rintro _ ⟨nq, rfl⟩
      simp only [Exit.then]
      apply_assumption
      go_wp2_with fail
      go_roundw
      case rel => exact ⟨a + 1, m + nq, by omega, by go_num, rfl⟩
      case measure => simp [intOf]; omega
    · obtain rfl : n = a := by omega
      go_wp2_with fail
      go_loopw [10] (fun s10 wr => ∃ a m' : Nat, a ≤ n ∧ s10 = .int .i64 a ∧ wr = w.drewN m') (fun s10 _ => n - (intOf s10).toNat)
      case atStart => exact ⟨0, m, by omega, rfl, rfl⟩
      case round =>
        obtain ⟨a, m', ha, rfl, rfl⟩ := hrel
        by_cases han : a < n
        · have haI : (a : Int) < n := by omega
          have hae : a < ps.length := by rw [unhide hps]; exact han
          obtain ⟨b1, o1, rfl, _, _, r1⟩ := h3.at_ (k := a) (by simpa using hae)
          obtain ⟨b2, o2, rfl, _, _, r2⟩ := h4.at_ (k := a) (by simpa using hae)
          simp only [List.getElem_map] at r1 r2
          obtain ⟨X, hX⟩ : ∃ X, X = ps[a] := ⟨_, rfl⟩
          rw [← hX] at r1 r2
          have d0 : w.cell? ⟨b1, o1 + a * 3, none⟩ = some (.int .i64 X.su) := rd_cell r1 0 (by omega)
          have d1 : w.cell? ⟨b1, o1 + a * 3 + 1, none⟩ = some (.int .i64 X.ro) := rd_cell r1 1 (by omega)
          have d2 : w.cell? ⟨b1, o1 + a * 3 + 2, none⟩ = some (.int .i64 X.sl) := rd_cell r1 2 (by omega)
          have f0 : w.cell? ⟨b2, o2 + a * 3, none⟩ = some (.int .i64 X.su) := rd_cell r2 0 (by omega)
          have f1 : w.cell? ⟨b2, o2 + a * 3 + 1, none⟩ = some (.int .i64 X.ro) := rd_cell r2 1 (by omega)
          have f2 : w.cell? ⟨b2, o2 + a * 3 + 2, none⟩ = some (.int .i64 X.sl) := rd_cell r2 2 (by omega)
          clear hX r1 r2
          go_wp2_with fail
          refine wp_region_quiet_lit (by kernel_rfl) (by kernel_rfl) ?_
          iterate 9 (go_big_quiet_step (fail))
          refine wpQuiet_nil ?_
          rintro _ ⟨nq, rfl⟩
          simp only [Exit.then]
          apply_assumption
          go_wp2_with fail
          go_roundw
          case rel => exact ⟨a + 1, m' + nq, by omega, by go_num, rfl⟩
          case measure => simp [intOf]; omega
        · obtain rfl : n = a := by omega
          go_wp2_with fail
          go_ret
          exact ⟨rfl, ⟨rfl, rfl, rfl, Nat.le_refl _, fun _ _ => rfl⟩⟩
theorem Ow.canW {w : World} {base : Nat} {e : TypeId} {sz n c g : Nat} {xs : List (Array Value)} (h : Ow w base e sz (.slice (some ⟨g, 0, none⟩) n c) xs) {o m : Nat} (ho : o + m ≤ n * sz) (hn : xs.length = n) : Base.canW w g o m = true := by
  rcases h.2 with ⟨h0, _⟩ | ⟨g', cap, cur, h0, h1, h2, h3⟩
  · cases h0
  · injection h0 with h0 h00 h000
    injection h0 with h0
    injection h0 with h0
    subst h0 h000
    rw [hn] at h3
    unfold Base.canW
    rw [h2]
    simp only [Bool.and_eq_true, decide_eq_true_eq]
    refine ⟨?_, trivial⟩
    obtain ⟨k1, k2, k3, _⟩ := h3
    have := Nat.mul_le_mul_right sz k1
    omega
theorem sup_lit : (#[.int .i64 0, .slice none 0 0] : Array Value) = zS.arr := rfl
theorem stV_sup (a : Addr) (v : Value) : storeVar 43 a v = stV 43 a v := rfl
theorem info_sup : (Try.prog.info? 43).map (·.size) = some 2 := by kernel_rfl
theorem run_stV_sup (w : World) (b o : Nat) (cs : Array Value) : (stV 43 ⟨b, o, none⟩ (.agg cs)).run Try.prog w =
    stR Try.prog 43 ⟨b, o, none⟩ (canW w b o 2 && okW cs 2) (.agg cs) w (wr w b o cs) :=
  run_stV Try.prog 43 2 info_sup w b o cs
theorem okW_sup : okW #[.int .i64 0, .slice none 0 0] 2 = true := by simp [Base.okW, Value.oneCell']
theorem info_sup3 : (Try.prog.info? 43).map (fun i => (i.zero, i.size, i.bytes)) = some (some (.agg #[.int .i64 0, .slice none 0 0]), 2, 32) := by kernel_rfl
end Go.Proofs.Ytnihgfhaenpfkaa.Base
