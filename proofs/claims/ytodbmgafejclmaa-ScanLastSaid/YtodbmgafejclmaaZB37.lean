/-
  Parts of a proof, laid together by a program of mine (pack.py): Rk.
-/
import Derived.Deep.DeepCutAuto
import Derived.Test.YtodbmgafejclmaaZB36
namespace Go.Proofs.Ytodbmgafejclmaa.Base
open Go.RowKit Go.Proofs.YtodbmgafejclmaaW.PrintWords Go.Proofs.YtodbmgafejclmaaW.PrintLast
set_option linter.unusedSimpArgs false
set_option linter.unusedVariables false
attribute [local go_sem] Ent.arr0 Ent.arr1 Ent.arr2 Ent.set1 Ent.set2 Ent.arr_size Ent.okW Ent.lit run_ldV_ent run_stV_ent ldR_some stR_true rd_new_whole rd_alloc canW_new canW_alloc wr_new wr_alloc rd_drew rd_drewN canW_drew canW_drewN run_bsS_ent run_bsS_ent0 run_eqI_ent rd_setCell rd_setCell_same canW_setCell' Option.map_some cell_wr_other rd_wr_same rd_wr_other
attribute [local go_sem ↓] ldV_ent stV_ent bsS_ent eqI_ent
attribute [local go_sem] Ent.arr0g Ent.arr1g Ent.arr2g run_ldV_dat rd_dat run_eqI_dat dat_lit
attribute [local go_sem ↓] ldV_dat eqI_dat
attribute [local go_sem] run_bdE4 run_bdE3 run_bdE1 run_bdE0
attribute [local go_sem ↓] build_ent
set_option maxRecDepth 100000 in
set_option maxHeartbeats 4000000 in
theorem rencode_bad2 (d n m : Nat) (s u a : Int) (A : Option Addr) (c : Nat) (es : List Ent) (w : World) (hd : 6 ≤ d ∧ d ≤ 8) (hdn : d = n + 2) (hs : 1 ≤ s ∧ s ≤ 1099511627776) (hu : 0 ≤ u ∧ u ≤ 255) (ha : 0 ≤ a ∧ a ≤ 255) (hl : es.length ≤ n) (hwf : ∀ e ∈ es, e.Wf) (hm : m < es.length) (hok : ∀ (i : Nat) (h : i < es.length), i < m → OkE es[i]) (hbad : ¬ OkE es[m])
    (hc : es.length ≤ c) (hs0 : Sl w 0 w.heap.size 19 A (es.map Ent.arr)) :
    Calls Try.prog 17 #[.int .i64 d, .int .i64 s, .int .i64 u, .int .i64 a, .slice A es.length c] w fun x w' => x = .returned (.tuple #[.slice none 0 0, .int .i64 1]) ∧ Below w.heap.size w w' := by
  have hlI : (es.length : Int) ≤ (d : Int) - 2 := by omega
  have hdI : (d : Int) - 2 = (n : Int) := by omega
  have hdw : 6 ≤ (d : Int) ∧ (d : Int) ≤ 8 := by omega
  replace hdn := hide hdn; replace hdI := hide hdI
  replace hok := hide hok; replace hbad := hide hbad
  go_enter Try.func17, Try.ntmps17
  go_wp2_with fail
  go_loopw [12, 13, 14] (fun s12 s13 s14 wr => ∃ (j : Nat) (A2 : Option Addr) (c2 : Nat) (T : List Hr), j ≤ m ∧ s13 = .int .i64 j ∧ s12 = .slice A2 j c2 ∧ j ≤ c2 ∧ Rws wr w.heap.size (.slice A2 j c2) T ∧ T.map (·.2.2) = rowsE s u a es j ∧ Below w.heap.size w wr) (fun _ s13 _ _ => m - (intOf s13).toNat)
  case atStart => exact ⟨0, none, 0, [], by omega, rfl, rfl, by omega, Rws.nil _ _, rfl, Below.refl _ _⟩
  case round =>
    obtain ⟨j, A2, c2, T, hj, rfl, rfl, hc2, hT, hL, hb⟩ := hrel
    have hz := hb.size
    have hnd : n + 2 ≤ d := by have := unhide hdn; omega
    have hnd' : d ≤ n + 2 := by have := unhide hdn; omega
    have hjn : j < n := by omega
    have hjI : (j : Int) < (d : Int) - 2 := by omega
    have hj0 : (0 : Int) ≤ j := by omega
    have hje : j < es.length := by omega
    by_cases hjm : j < m
    · have hjeI : (j : Int) < es.length := by omega
      obtain ⟨b, o, rfl, _, hbl, hr⟩ := hs0.at_ (k := j) (by simpa using hje)
      simp only [List.getElem_map] at hr
      have hr2 := (rd_below hb hbl _ _).trans hr
      obtain ⟨X, hX⟩ : ∃ X, X = es[j] := ⟨_, rfl⟩
      have hXj : Hid (es.getD j zeroE = X) := hide (by rw [hX, List.getD_eq_getElem?_getD, List.getElem?_eq_getElem hje]; rfl)
      have hXw : X.Wf := by rw [hX]; exact hwf _ (List.getElem_mem hje)
      have hXo : OkE X := by rw [hX]; exact (unhide hok) j hje hjm
      rw [← hX] at hr2
      clear hX hr
      have hbl' : b < wr.heap.size := by omega
      have hch := rcheck_any X (wr.alloc (Obj.cells X.arr 54))
      rw [chk_yes hXo] at hch
      replace hL := hide hL; replace hXw := hide hXw
      clear hXo
      go_wp2_with fail
      (with_reducible refine hch.mono ?_)
      rintro x w2 ⟨rfl, hb2⟩
      clear hch hr2
      have hL := unhide hL; have hXw := unhide hXw; have hXj := unhide hXj
      have hW2 := hb2.size
      rw [World.size_alloc] at hW2
      have hbox : rd w2 wr.heap.size 0 19 = some X.arr := (rd_below hb2 (by simp) _ _).trans (rd_new_whole _ _ _ _ _ _ rfl (Ent.arr_size _).symm)
      have hbb2 : Below w.heap.size w w2 := (hb.alloc hz _).trans (hb2.mono (by simp; omega))
      have hcon := rbytes_any s u a (j : Int) X w2 (by unfold I64; omega) (by unfold I64; omega) (by unfold I64; omega) (by unfold I64; omega) hXw.1 hXw.2.1 hXw.2.2.1
      go_wp2_with fail
      (with_reducible refine hcon.mono ?_)
      rintro x w3 ⟨⟨A3, c3, rfl, hc3, ho3⟩, hb3⟩
      have hW3 := hb3.size
      have hbb3 : Below w.heap.size w w3 := hbb2.trans (hb3.mono (by omega))
      have hT3 : Rws w3 w.heap.size (.slice A2 j c2) T := ((hT.below ((Below.refl _ _).alloc (Nat.le_refl _) _)).below (hb2.mono (Nat.le_refl _))).below hb3
      have hs3 : Sl w3 0 w3.heap.size 1 A3 (By (bytesE s u a j X)) := (ho3.sl (By.sized _) (by omega)).less (Nat.zero_le _)
      have hTl : T.length = j := by have := congrArg List.length hL; rw [List.length_map, rowsE_len] at this; exact this
      have hlt := fun g e => hT.1.lt g e
      obtain ⟨A4, c4, w4, hrun, hc4, hT4, hg4⟩ := Rws.app w3 w.heap.size (.slice A2 j c2) T hT3 [(A3, c3, bytesE s u a j X)] 1 rfl (fun t ht => by
        rw [List.mem_singleton.1 ht]
        refine ⟨by rw [bytesE_len]; exact hc3, by rw [bytesE_len]; omega, hs3, fun ad had => ?_⟩
        have hA3 : A3 = some ad := had
        subst hA3
        have h7 := ho3.lt ad.block rfl
        exact ⟨h7.2, fun e => by have := (hlt ad.block e.symm).2; omega⟩) (by omega) (by omega) 48
      have hcell : ([((A3, c3, bytesE s u a j X) : Hr)].map Hr.cell).toArray = #[Value.slice A3 48 c3] := by simp [Hr.cell, bytesE_len]
      rw [hcell, hTl] at hrun
      rw [hcell] at hg4
      rw [hTl] at hc4 hT4
      have hb4 : Below w.heap.size w w4 := below_grown (hbb3.alloc (by omega) _) hg4 (by simp; omega) (fun k ek => (hlt k ek).1)
      have hL4 : (T ++ [((A3, c3, bytesE s u a j X) : Hr)]).map (·.2.2) = rowsE s u a es (j + 1) := by rw [List.map_append, hL, rowsE_succ, hXj]; rfl
      replace hL4 := hide hL4; replace hT4 := hide hT4
      clear hcell hTl hlt hs3 hT3 ho3 hcon hbox hL hT hXj
      go_wp2_with (at_builtin; refine wpList_step (fun K hK => step_append_ex (o := ⟨some 81, _, _, _, _, _⟩) (.tmp 72) (.tmp 80) 48 rfl (by rfl) ⟨_, _, hrun, hK _ _ ?_⟩))
      go_roundw
      case rel => exact ⟨j + 1, A4, c4, _, by omega, by go_num, rfl, hc4, unhide hT4, unhide hL4, hb4⟩
      case measure => simp [intOf]; omega
    · have hjm2 : m ≤ j := by omega
      have hjeI : (j : Int) < es.length := by omega
      obtain ⟨b, o, rfl, _, hbl, hr⟩ := hs0.at_ (k := j) (by simpa using hje)
      simp only [List.getElem_map] at hr
      have hr2 := (rd_below hb hbl _ _).trans hr
      obtain ⟨X, hX⟩ : ∃ X, X = es[j] := ⟨_, rfl⟩
      have hXo : ¬ OkE X := by
        have hmj : m = j := by omega
        subst hmj
        rw [hX]
        exact unhide hbad
      rw [← hX] at hr2
      clear hX hr
      have hbl' : b < wr.heap.size := by omega
      have hch := rcheck_any X (wr.alloc (Obj.cells X.arr 54))
      rw [chk_no hXo] at hch
      replace hL := hide hL
      clear hXo
      go_wp2_with fail
      (with_reducible refine hch.mono ?_)
      rintro x w2 ⟨rfl, hb2⟩
      clear hch hr2
      have hbb2 : Below w.heap.size w w2 := (hb.alloc hz _).trans (hb2.mono (by simp; omega))
      go_wp2_with fail
      go_ret2
      exact ⟨rfl, hbb2⟩
end Go.Proofs.Ytodbmgafejclmaa.Base
