/-
  Parts of a proof, laid together by a program of mine (pack.py): De.
-/
import Derived.Test.YtodbmgafejclmaaZD19
namespace Go.Proofs.Ytodbmgafejclmaa.Base
open Go.RowKit Go.Maps Go.Proofs.YtodbmgafejclmaaW.PrintWords Go.Proofs.YtodbmgafejclmaaW.PrintLast
set_option linter.unusedSimpArgs false
set_option linter.unusedVariables false
theorem info_row : (Try.prog.info? 39).map (·.size) = some 3 := by kernel_rfl
theorem dies_tt (n : Int) (w : World) (h : 6 ≤ n ∧ n ≤ 8) : Calls Try.prog 33 #[.int .i64 n] w fun e w' => e = .returned (.bool true) ∧ w = w' := by
  have := dies_any n w
  rw [decide_eq_true h.1, decide_eq_true h.2] at this
  exact this
theorem kl_int {x : Int} (h : I64 x) : keyOf Try.prog 3 (.int .i64 x) = some (.int .i64 x) := keyOf_int_mk Try.underlying3 (by simpa [Lit.wf, IntKind.min, IntKind.max, IntKind.signed, IntKind.bits, I64] using h)
theorem run_field_tal (v : Value) (w : World) : (Instr.field 81 (.agg #[v]) 0).run Try.prog w = .ok v w := by kernel_rfl
attribute [local go_sem] run_field_tal
/-- blank ones, good ones -/
def zs (ps : List Pg) : Nat := (ps.map (·.1)).count 0
def gs (ps : List Pg) : Nat := (ps.map (·.1)).count 2
def early (ps : List Pg) : Int := if zs ps = ps.length then 2 else if 0 < zs ps then 5 else 11
set_option maxRecDepth 100000 in
set_option maxHeartbeats 2000000 in
theorem decode_early (s a most : Int) (A : Option Addr) (c : Nat) (ps : List Pg) (w : World) (hx : ∀ p ∈ ps, I64 p.1) (hl : 6 ≤ ps.length ∧ ps.length ≤ 8) (hm : 0 ≤ most ∧ most ≤ 2) (hc : ps.length ≤ c) (hs : Sl w 0 w.heap.size 2 A (ps.map Pg.arr))
    (he : 0 < zs ps ∨ most < (ps.length : Int) - gs ps) :
    Calls Try.prog 24 #[.int .i64 s, .int .i64 a, .slice A ps.length c, .int .i64 most] w fun x w' => x = .returned (.tuple #[.agg #[.int .i64 0, .int .i64 0, .slice none 0 0], .int .i64 (early ps)]) ∧ Below w.heap.size w w' := by
  have hdies := fun w => dies_tt (ps.length : Int) w (by omega)
  have hgl : gs ps ≤ ps.length := by unfold gs; exact Nat.le_trans List.count_le_length (by simp)
  have hsub : wrap64 ((ps.length : Int) - (gs ps : Int)) = (ps.length : Int) - (gs ps : Int) := by rw [← i64_w]; exact IntWalk.i64_in ((ps.length : Int) - (gs ps : Int)) (by omega)
  replace hsub := hide hsub
  obtain ⟨hm0, hm2⟩ := hm
  replace he := hide he
  go_enter Try.func24, Try.ntmps24
  go_wp2_with fail
  refine (hdies _).mono ?_
  rintro e w1 ⟨rfl, rfl⟩
  go_wp2_with fail
  obtain ⟨W0, hW⟩ : ∃ W0, w.alloc (Obj.cells #[.int .i64 0, .int .i64 0, .slice none 0 0] 39) = W0 := ⟨_, rfl⟩
  rw [hW]
  have z0 : W0.heap.size = w.heap.size + 1 := by rw [← hW]; simp
  have b0 : Below w.heap.size w W0 := by rw [← hW]; exact (Below.refl _ _).alloc (Nat.le_refl _) _
  have f0 : W0.heap[w.heap.size]? = some (.cells #[.int .i64 0, .int .i64 0, .slice none 0 0] 39 (0, 0)) := by rw [← hW]; exact heap_alloc_new _ _
  clear hW
  replace z0 := hide z0
  refine (states_any A c ps W0 hx (by omega) hc ((hs.below b0).more (by rw [unhide z0]; omega))).mono ?_
  rintro e w1 ⟨b, D, rfl, hb1, hT, hD⟩
  have f1 := (hb1.block _ (by rw [unhide z0]; omega)).trans f0
  have f1c : w1.cell? ⟨w.heap.size, 0, none⟩ = some (.int .i64 0) := by simp [World.cell?, f1]
  have f1c1 : w1.cell? ⟨w.heap.size, 1, none⟩ = some (.int .i64 0) := by simp [World.cell?, f1]
  have f1c2 : w1.cell? ⟨w.heap.size, 2, none⟩ = some (.slice none 0 0) := by simp [World.cell?, f1]
  have f1f : w1.frozen? ⟨w.heap.size, 0, none⟩ = false := by simp [World.frozen?, f1]
  have hbF : Below w.heap.size w w1 := b0.trans (hb1.mono (by rw [unhide z0]; omega))
  replace f0 := hide f0
  replace f1 := hide f1
  have hk0 := kl_int (x := 0) ⟨by omega, by omega⟩
  have hk2 := kl_int (x := 2) ⟨by omega, by omega⟩
  have f1f1 : w1.frozen? ⟨w.heap.size, 1, none⟩ = false := by simp [World.frozen?, unhide f1]
  have f1f2 : w1.frozen? ⟨w.heap.size, 2, none⟩ = false := by simp [World.frozen?, unhide f1]
  have hrd : rd (((w1.setCell ⟨w.heap.size, 0, none⟩ (.int .i64 0)).setCell ⟨w.heap.size, 1, none⟩ (.int .i64 0)).setCell ⟨w.heap.size, 2, none⟩ (.slice none 0 0)) w.heap.size 0 3 = some #[.int .i64 0, .int .i64 0, .slice none 0 0] := by
    rw [rd_setCell_same, rd_setCell_same, rd_setCell_same]
    simp [rd, unhide f1]
  have hbS : Below w.heap.size w (((w1.setCell ⟨w.heap.size, 0, none⟩ (.int .i64 0)).setCell ⟨w.heap.size, 1, none⟩ (.int .i64 0)).setCell ⟨w.heap.size, 2, none⟩ (.slice none 0 0)) := ((hbF.setCell (Nat.le_refl _) _).setCell (Nat.le_refl _) _).setCell (Nat.le_refl _) _
  replace hrd := hide hrd
  obtain ⟨z, hz⟩ : ∃ z : Nat, z = zs ps := ⟨_, rfl⟩
  obtain ⟨g, hg⟩ : ∃ g : Nat, g = gs ps := ⟨_, rfl⟩
  have hcz : ∀ cc : Int, D.atKey (.int .i64 0) (.lit (.int .i64 0)) = .lit (.int .i64 cc) → cc = (z : Int) := fun cc h => by rw [hz]; exact hT.cnt h
  have hcg : ∀ cc : Int, D.atKey (.int .i64 2) (.lit (.int .i64 0)) = .lit (.int .i64 cc) → cc = (g : Int) := fun cc h => by rw [hg]; exact hT.cnt h
  have hE : early ps = if z = ps.length then 2 else if 0 < z then 5 else 11 := by unfold early; rw [hz]
  replace he := unhide he
  rw [← hz, ← hg] at he
  rw [← hg] at hgl hsub
  clear hz hg hT
  have hcz := hide hcz
  have hcg := hide hcg
  by_cases h1 : z = ps.length
  · rw [if_pos h1] at hE
    replace hE := hide hE
    clear he
    subst h1
    go_wp2_with (at_lookup; refine wpList_lookup_own_int _ rfl _ _ 79 rfl 3 3 .i64 mlaw3 Try.underlying79 Try.underlying3 (mzero3 _) b ps.length D rfl hD _ _ rfl hk0 ?_; intro c_1 hat hwc; obtain rfl := unhide hcz _ hat)
    refine bodyPost_ret (results_ct Try.results24 Try.underlying39 rfl info_row (cs := #[.int .i64 0, .int .i64 0, .slice none 0 0]) rfl (unhide hrd)) rfl ?_
    rw [unhide hE]
    exact ⟨rfl, hbS⟩
  · rw [if_neg h1] at hE
    by_cases h2 : 0 < z
    · rw [if_pos h2] at hE
      replace hE := hide hE
      clear he
      go_wp2_with (at_lookup; refine wpList_lookup_own_int _ rfl _ _ 79 rfl 3 3 .i64 mlaw3 Try.underlying79 Try.underlying3 (mzero3 _) b ps.length D rfl hD _ _ rfl hk0 ?_; intro c_1 hat hwc; obtain rfl := unhide hcz _ hat)
      refine bodyPost_ret (results_ct Try.results24 Try.underlying39 rfl info_row (cs := #[.int .i64 0, .int .i64 0, .slice none 0 0]) rfl (unhide hrd)) rfl ?_
      rw [unhide hE]
      exact ⟨rfl, hbS⟩
    · rw [if_neg h2] at hE
      replace hE := hide hE
      have he' := he.resolve_left h2
      clear he
      go_wp2_with (first | (at_lookup; refine wpList_lookup_own_int _ rfl _ _ 79 rfl 3 3 .i64 mlaw3 Try.underlying79 Try.underlying3 (mzero3 _) b ps.length D rfl hD _ _ rfl hk0 ?_; intro c_1 hat hwc; obtain rfl := unhide hcz _ hat) | (at_lookup; refine wpList_lookup_own_int _ rfl _ _ 79 rfl 3 3 .i64 mlaw3 Try.underlying79 Try.underlying3 (mzero3 _) b ps.length D rfl hD _ _ rfl hk2 ?_; intro c_1 hat hwc; obtain rfl := unhide hcg _ hat))
      refine bodyPost_ret (results_ct Try.results24 Try.underlying39 rfl info_row (cs := #[.int .i64 0, .int .i64 0, .slice none 0 0]) rfl (unhide hrd)) rfl ?_
      rw [unhide hE]
      exact ⟨rfl, hbS⟩
end Go.Proofs.Ytodbmgafejclmaa.Base
