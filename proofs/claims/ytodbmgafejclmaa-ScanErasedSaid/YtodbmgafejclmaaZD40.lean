/-
  Parts of a proof, laid together by a program of mine (pack.py): Bk.
-/
import Derived.Test.YtodbmgafejclmaaZD39
namespace Go.Proofs.Ytodbmgafejclmaa.Base
open Go.RowKit Go.Maps Go.Proofs.YtodbmgafejclmaaW.PrintWords Go.Proofs.YtodbmgafejclmaaW.PrintLast
open Go.Proofs.Ytodbmgafejclmaa.Fld Go.Proofs.Ytodbmgafejclmaa.Pl Go.Proofs.Ytodbmgafejclmaa.Kp Go.Proofs.Ytodbmgafejclmaa.Fw Go.Proofs.Ytodbmgafejclmaa.Co Go.Proofs.Ytodbmgafejclmaa.Cw Go.Proofs.Ytodbmgafejclmaa.Cd Go.Proofs.Ytodbmgafejclmaa.Rf
set_option linter.unusedSimpArgs false
set_option linter.unusedVariables false
attribute [local go_sem] Ent.arr0 Ent.arr1 Ent.arr2 Ent.set1 Ent.set2 Ent.arr_size Ent.okW Ent.lit run_ldV_ent run_stV_ent ldR_some stR_true rd_new_whole rd_alloc canW_new canW_alloc wr_new wr_alloc rd_drew rd_drewN canW_drew canW_drewN run_bsS_ent run_bsS_ent0 run_eqI_ent rd_setCell rd_setCell_same canW_setCell' Option.map_some cell_wr_other rd_wr_same rd_wr_other
attribute [local go_sem ↓] ldV_ent stV_ent bsS_ent eqI_ent
attribute [local go_sem] Ent.arr0g Ent.arr1g Ent.arr2g run_ldV_dat rd_dat run_eqI_dat dat_lit
attribute [local go_sem ↓] ldV_dat eqI_dat
attribute [local go_sem] run_bdE4 run_bdE3 run_bdE1 run_bdE0
attribute [local go_sem ↓] build_ent
theorem RC.of_rws {w : World} {base : Nat} {A : Option Addr} {n c : Nat} {T : List Hr} (h : Rws w base (.slice A n c) T) (hm : T.length ≤ 1000000) : n = T.length ∧ n ≤ c ∧ RC w A n (T.map (·.2.2)) := by
  obtain ⟨A0, c0, hv, hc, hC⟩ := h.C hm
  injection hv with e1 e2 e3
  subst e1 e3
  rw [List.length_map] at e2 hc hC
  subst e2
  exact ⟨rfl, hc, hC⟩
theorem full_fit (s u a : Int) (es : List Ent) (n : Nat) (h : ∀ e ∈ es, e.Wf) : (fullE s u a es n).length = n + 2 ∧ ∀ r ∈ fullE s u a es n, r ≠ [] ∧ OkB r ∧ r.length ≤ 1000000 := by
  have hC := code_full s u a es n h
  refine ⟨hC.len, fun r hr => ?_⟩
  obtain ⟨h1, h2⟩ := hC.good r hr
  exact ⟨by intro e; rw [e] at h1; simp at h1, h2, by omega⟩
theorem padE_self (es : List Ent) : padE es es.length = es := by
  unfold padE
  apply List.ext_getElem (by simp)
  intro i h1 h2
  simp [List.getD_eq_getElem?_getD, h2]
/-- what a row's pages say, some of them lost -/
theorem decP_back {s u a most : Int} {es : List Ent} {m : Nat} {P : List Int} {ps : List Pg} (hm : 4 ≤ m ∧ m ≤ 6) (hs : 1 ≤ s ∧ s ≤ 1099511627776) (hu : 0 ≤ u ∧ u ≤ 255) (ha : 0 ≤ a ∧ a ≤ 255) (hwf : ∀ e ∈ es, e.Wf) (hok : ∀ e ∈ es, OkE e) (hP : ∃ lim, Pc.Ok lim (m + 2) P) (h0 : 0 ≤ most) (h2 : most ≤ 2) (hq : ps.map qOf = pagesQ (fullE s u a es m) P) :
    ps.length = m + 2 ∧ decP u a ps most = if most < P.length then (11, none) else (0, some (s, padE es m)) := by
  have hC := code_full s u a es m hwf
  obtain ⟨lim, o1, o2, o3⟩ := hP
  have hin : ∀ x ∈ P, 0 ≤ x ∧ x < ((fullE s u a es m).length : Int) := fun x hx => by have := o2 x hx; rw [hC.len]; omega
  obtain ⟨hl, hat⟩ := pages_at hq (fun x hx => (hin x hx).1)
  obtain ⟨e1, _⟩ := lost_pages hq hin o3
  rw [hC.len] at hl
  have hz : zs ps = 0 := zs_zero (fun j hj => by
    have := congrArg Prod.fst (hat j hj)
    have h3 : ps[j].1 = (qOf ps[j]).1 := rfl
    rw [h3, this]
    split
    · show ¬ ((1 : Int) = 0); omega
    · show ¬ ((2 : Int) = 0); omega)
  refine ⟨hl, ?_⟩
  rw [decP_of (by omega) (by omega) h0 h2 hz, e1]
  by_cases h : most < (P.length : Int)
  · rw [if_pos h, if_pos h]
  · rw [if_neg h, if_neg h]
    obtain ⟨f1, f2⟩ := fix_lost hC (by omega) (by omega) hq ⟨by omega, o2, o3⟩
    rw [decL_of f1 (by rw [hl]; exact hC) f2, hl, show m + 2 - 2 = m from by omega, full_take, slot_rows hs hu ha hok hwf (by omega) (by omega)]
theorem pages_i64 {ps : List Pg} {L : List (List Int)} {l : List Int} (h : ps.map qOf = pagesQ L l) (h0 : ∀ x ∈ l, 0 ≤ x) : ∀ p ∈ ps, I64 p.1 := fun p hp => by
  obtain ⟨_, hat⟩ := pages_at h h0
  obtain ⟨j, hj, rfl⟩ := List.getElem_of_mem hp
  have := congrArg Prod.fst (hat j hj)
  have h3 : ps[j].1 = (qOf ps[j]).1 := rfl
  rw [h3, this]
  split
  · exact (⟨by omega, by omega⟩ : I64 1)
  · exact (⟨by omega, by omega⟩ : I64 2)
end Go.Proofs.Ytodbmgafejclmaa.Base
