/-
  Parts of a proof, laid together by a program of mine (pack.py): Lz.
-/
import Derived.Test.YtodbmgafejclmaaZB53
namespace Go.Proofs.Ytodbmgafejclmaa.Base
open Go.RowKit Go.Maps Go.Proofs.YtodbmgafejclmaaW.PrintWords Go.Proofs.YtodbmgafejclmaaW.PrintLast
set_option linter.unusedSimpArgs false
set_option linter.unusedVariables false
attribute [local go_sem] fld_super0 fld_super1
/-- a superblock's rows, copied -/
theorem Pn.copy (w : World) (bp : Nat) (A : Option Addr) (N c : Nat) (T : List PR) (hP : Pn w bp (.slice A N c) T) (hN : N = T.length) (h0 : 0 < N) (hsm : N ≤ 1000) (ty : TypeId) :
    ∃ A' c' w', (Builtin.append_ #[27, 27] ty #[.slice (some ⟨w.heap.size, 0, none⟩) 0 0, .slice A N c]).run Try.prog (w.alloc (.cells #[] 33)) = .ok (.slice A' N c') w' ∧ Pn w' w.heap.size (.slice A' N c') T ∧ N ≤ c' ∧ Below w.heap.size w w' := by
  have hb0 := (Below.refl w.heap.size w).alloc (Nat.le_refl _) (.cells #[] 33)
  obtain ⟨g, rfl, hg1, hg2, _⟩ := hP.some_of h0
  obtain ⟨i0, hi0, hz0, hz1, hz2⟩ := info_parts info_pgs
  obtain ⟨b, o, e1, _, hb2, hcl⟩ := hP.sl.flat_cells (PR.sized T) (by intro h; have := congrArg List.length h; rw [List.length_map] at this; simp at this; subst this; simp at hN; omega)
  injection e1 with e1
  injection e1 with e1 e2 _
  subst e1 e2
  have hown : Ow (w.alloc (.cells #[] 33)) w.heap.size 33 1 (.slice (some ⟨w.heap.size, 0, none⟩) 0 0) [] := Ow.empty w _ _
  obtain ⟨v', w', hrun, h2, h3, _, h5⟩ := run_append_own_at (P := Try.prog) (w.alloc (.cells #[] 33)) w.heap.size 27 ty 33 i0 _ 1 24 Try.underlying27 hi0 hz0 hz1 hz2 rfl (by omega) (.slice (some ⟨w.heap.size, 0, none⟩) 0 0) 0 [] hown ⟨g, 0, none⟩ N c (flat (T.map PR.arr)) (by rw [flat_len (PR.sized T), List.length_map, hN])
    (fun j u hu => by
      have := hcl j u hu
      rw [Addr.add_mid]
      exact (hb0.cell (p := ⟨g, 0 + j, none⟩) hg2).trans this) (PR.ones T).flat_all (by unfold maxLen; omega) (by omega) (by rw [World.size_alloc]; omega)
  rw [List.nil_append, Nat.zero_add] at h2
  have ho' : Ow w' w.heap.size 33 1 v' (T.map PR.arr) := by
    unfold Ow
    rw [List.length_map, ← hN]
    exact h2
  obtain ⟨A', c', hv, hc', _⟩ := ho'.form
  rw [List.length_map, ← hN] at hv hc'
  subst hv
  have hb : Below w.heap.size w w' := below_grown hb0 h3 (by rw [World.size_alloc]; omega) (fun k ek => by simp only [Value.ownBlock, Option.some.injEq] at ek; omega)
  refine ⟨A', c', w', hrun, ⟨ho', fun t ht => ?_⟩, hc', hb⟩
  have h1 := hP.2 t ht
  have hlo := fun k e => (ho'.lt k e).1
  exact ⟨h1.1.below hb, fun a ha => ⟨Nat.lt_of_lt_of_le (h1.2.1 a ha).1 hb.size, fun e => by have := hlo _ e.symm; have := (h1.2.1 a ha).1; omega⟩, fun p hp a ha e => by have := hlo _ e.symm; have := (h1.1.2.2.2.2 p hp).2.2.2.1 a ha; omega⟩
/-- the last row that was written is something else -/
theorem look_torn {m N k : Nat} {es : List Ent} {T : List PR} {r : PR} (h : Made 1 m (k + 1 : Nat) N es T) (hm : 4 ≤ m ∧ m ≤ 6) (hwf : ∀ e ∈ es, e.Wf) (hN : N ≤ 8) (hk : k + 1 ≤ N) :
    (lookP 1 (T.set k r)).2 = (List.range (if stB r.2.2 = true then k else k - 1)).map fun (j : Nat) => ((wrote es m N j).1, (j : Int), (wrote es m N j).2) := by
  have hT : k < T.length := by rw [h.1]; omega
  have hst : ∀ j, j < N → stB (pgsOf (T.set k r) j) = if j = k then stB r.2.2 else decide ((j : Int) < (k + 1 : Nat)) := fun j hj => by
    rw [pgsOf_set r hT]
    by_cases e : j = k
    · rw [if_pos e, if_pos e]
    · rw [if_neg e, if_neg e, h.st hwf hj]
  have hs : ∀ n, n ≤ k → soundR 1 (T.set k r) n = (List.range n).map fun (j : Nat) => ((wrote es m N j).1, (j : Int), (wrote es m N j).2) := fun n hn => soundR_all (fun j hj => by
    rw [pgsOf_set r hT, if_neg (by omega), (h.dec hm (by omega) hwf hN (by omega) (by omega)).2])
  cases hr : stB r.2.2 with
  | true =>
    have hl : lastS (T.set k r) = (k : Int) := by
      unfold lastS
      rw [List.length_set, h.1]
      refine lastN_at (by omega) (by rw [hst k (by omega), if_pos rfl]; exact hr) (fun j h1 h2 => ?_)
      rw [hst j h2, if_neg (by omega), decide_eq_false (by omega)]
    rw [lookP_st (by omega), hl]
    simp only [if_true]
    exact hs k (Nat.le_refl _)
  | false =>
    simp only [Bool.false_eq_true, if_false]
    by_cases hk0 : k = 0
    · subst hk0
      have hl : lastS (T.set 0 r) = -1 := by
        unfold lastS
        rw [List.length_set, h.1]
        refine lastN_no (fun j h2 => ?_)
        rw [hst j h2]
        by_cases e : j = 0
        · rw [if_pos e]; exact hr
        · rw [if_neg e, decide_eq_false (by omega)]
      unfold lookP
      rw [if_pos (by rw [hl]; omega)]
      rfl
    · have hl : lastS (T.set k r) = ((k - 1 : Nat) : Int) := by
        unfold lastS
        rw [List.length_set, h.1]
        refine lastN_at (by omega) (by rw [hst (k - 1) (by omega), if_neg (by omega), decide_eq_true (by omega)]) (fun j h1 h2 => ?_)
        rw [hst j h2]
        by_cases e : j = k
        · rw [if_pos e]; exact hr
        · rw [if_neg e, decide_eq_false (by omega)]
      rw [lookP_st (by omega), hl]
      exact hs (k - 1) (by omega)
theorem wrap10 {i : Nat} (h : i ≤ 1000) : wrap64 (10 + (i : Int)) = 10 + (i : Int) := IntWalk.wrap64_in _ ⟨by omega, by omega⟩
theorem any_set {ps : List Pg} {i : Nat} (p : Pg) (hi : i < ps.length) : ((ps.set i p).take (i + 1)).any (fun p => decide (p.1 ≠ 0)) = ((ps.take i).any (fun p => decide (p.1 ≠ 0)) || decide (p.1 ≠ 0)) := by
  rw [List.take_succ_eq_append_getElem (by rw [List.length_set]; exact hi), List.any_append, List.take_set_of_le (Nat.le_refl _), List.getElem_set_self]
  simp
theorem any_same {ps : List Pg} {i : Nat} (hi : i < ps.length) : (ps.take (i + 1)).any (fun p => decide (p.1 ≠ 0)) = ((ps.take i).any (fun p => decide (p.1 ≠ 0)) || decide (ps[i].1 ≠ 0)) := by
  rw [List.take_succ_eq_append_getElem hi, List.any_append]
  simp
set_option maxRecDepth 100000 in
set_option maxHeartbeats 4000000 in
theorem last_walk (a0 a1 a2 : Int) (A A4 A5 : Option Addr) (c c4 c5 n M R : Nat) (es : List Ent) (sts raw : List Int) (w : World) (h0 : I64 a0) (h1 : I64 a1) (h2 : I64 a2) (hn : n = es.length) (hc : n ≤ c) (hm : c ≤ maxLen) (hs : Sl w 0 w.heap.size 19 A (es.map Ent.arr)) (hwf : ∀ e ∈ es, e.Wf)
    (hM : M = sts.length) (hc4 : M ≤ c4) (hm4 : c4 ≤ maxLen) (hs4 : Sl w 0 w.heap.size 1 A4 (In sts)) (hw4 : ∀ x ∈ sts, I64 x) (hR : R = raw.length) (hc5 : R ≤ c5) (hm5 : c5 ≤ maxLen) (hs5 : Sl w 0 w.heap.size 1 A5 (By raw)) :
    Calls Try.prog 3 #[.int .i64 a0, .int .i64 a1, .int .i64 a2, .slice A n c, .slice A4 M c4, .slice A5 R c5] w fun e w' => e = .returned (.bool true) ∧ Below w.heap.size w w' := by
  obtain ⟨q, hq, hw0⟩ := w13_lt a0 3 h0 (by omega) (by omega)
  obtain ⟨N', hN', hw2⟩ := w13_lt a2 7 h2 (by omega) (by omega)
  obtain ⟨k, hk, hw1⟩ := w13_lt a1 (2 + (N' : Int)) h1 (by omega) (by omega)
  have hMl : M ≤ maxLen := Nat.le_trans hc4 hm4
  have hRl : R ≤ maxLen := Nat.le_trans hc5 hm5
  unfold maxLen at hMl hRl
  obtain ⟨D, hDl, hDb, hdat⟩ := data_any A5 c5 R raw w hR hc5 (by omega) hs5
  have hn' := hide hn
  clear hn
  have hM' := hide hM
  clear hM hR hs5
  replace hDl := hide hDl
  replace hDb := hide hDb
  go_enter Try.func3, Try.ntmps3
  go_wp2_with fail
  refine (known13 _).mono ?_
  rintro e w1 ⟨rfl, hb1⟩
  by_cases hl : n ≤ 30 ∧ R ≤ 60
  · obtain ⟨hl, hlR⟩ := hl
    have hlI : (n : Int) ≤ 30 := by omega
    have hlRI : (R : Int) ≤ 60 := by omega
    have hlB : decide ((30 : Int) < (n : Int)) = false := by simp; omega
    have hlRB : decide ((60 : Int) < (R : Int)) = false := by simp; omega
    go_wp2_with fail
    refine (hw0 _).mono ?_
    rintro e wq ⟨rfl, rfl⟩
    go_wp2_with fail
    refine (hw2 _).mono ?_
    rintro e wq ⟨rfl, rfl⟩
    go_wp2_with fail
    refine (hw1 _).mono ?_
    rintro e wq ⟨rfl, rfl⟩
    have hmk := make_any 1 (6 + (q : Int)) (1 + (k : Int)) (2 + (N' : Int)) (4 + q) (2 + N') n c A es w1 (by omega) (by omega) (by omega) (by omega) (by omega) ⟨by omega, by omega⟩ (unhide hn') hl hc ((hs.below hb1).more hb1.size) hwf
    go_wp2_with fail
    (with_reducible refine hmk.mono ?_)
    rintro x w2 ⟨A2, c2, T, rfl, hc2, hT, hq2, hP2, hb2⟩
    have hmade : Made 1 (4 + q) (k + 1 : Nat) (2 + N') es T := ⟨hT, fun j hj => by rw [hq2 j hj]; congr 1; push_cast; omega⟩
    have hlk := look_pn 1 A2 c2 (2 + N') w1.heap.size T w2 hP2 hT.symm (by omega) hc2
    obtain ⟨hk1, hk2⟩ := look_made (k := k + 1) hmade (by omega) hwf (by omega) (by omega) (by omega)
    obtain ⟨⟨st, rows⟩, hlp⟩ : ∃ r, r = lookP 1 T := ⟨_, rfl⟩
    rw [← hlp] at hk1 hk2 hlk
    simp only at hk1 hk2
    rw [if_neg (by omega)] at hk1
    obtain ⟨Kn, hKk⟩ : ∃ Kn, Kn = k := ⟨_, rfl⟩
    have hrl : rows.length = Kn := by rw [hk2, List.length_map, List.length_range]; omega
    unfold LkA at hlk
    simp only at hlk
    rw [hrl] at hlk
    have hb12 := hb1.trans (hb2.mono hb1.size)
    clear hmk hq2 hw0 hw1 hw2 hlp hrl
    replace hT := hide hT
    replace hk1 := hide hk1
    replace hk2 := hide hk2
    replace hKk := hide hKk
    replace hmade := hide hmade
    go_wp2_with fail
    (with_reducible refine hlk.mono ?_)
    rintro x w3 ⟨⟨A3, c3, T4, rfl, hc3, hT4, hR4⟩, hb3⟩
    clear hlk
    have hb13 := hb12.trans (hb3.mono hb12.size)
    have hP3 := hP2.below hb3
    obtain ⟨g, rfl, hg1, hg3, hjunk⟩ := hP2.some_of (by omega)
    clear hjunk hP2
    obtain ⟨W4, hW4⟩ : ∃ W4, W4 = w3.alloc (Obj.cells #[.int .i64 st, .slice A3 Kn c3] 31) := ⟨_, rfl⟩
    have hb34 : Below w3.heap.size w3 W4 := by rw [hW4]; exact (Below.refl _ _).alloc (Nat.le_refl _) _
    have f4 : W4.heap[w3.heap.size]? = some (.cells #[.int .i64 st, .slice A3 Kn c3] 31 (0, 0)) := by rw [hW4]; exact heap_alloc_new _ _
    have hb14 := hb13.trans (hb34.mono hb13.size)
    have hP4 := hP3.below hb34
    have hR5 := hR4.below hb34
    have hz34 := hb34.size
    have hz23 := hb3.size
    have hg2 : g < W4.heap.size := by omega
    have hTl := unhide hT
    have hkT : k < T.length := by omega
    obtain ⟨hr4, hap4⟩ := hP4.row hkT
    have hcw : w3.cell? ⟨g, k, none⟩ = some (T.getD k zPR).cell := hP3.cell hkT
    have hdl := ((unhide hmade).dec (by omega) (by omega) hwf (by omega) (k := k) (by omega) (by omega)).1
    have hpl : 4 + q + 2 = (T.getD k zPR).2.2.length := hdl.symm
    obtain ⟨A6, c6, w5, hrun5, hx5, hb5⟩ := Xr.copy W4 g (T.getD k zPR) (4 + q + 2) hpl hr4 hap4 hg2 33
    have hce : (T.getD k zPR).cell = .slice (T.getD k zPR).1 (4 + q + 2) (T.getD k zPR).2.1 := by rw [PR.cell, ← hpl]
    rw [hce] at hcw
    obtain ⟨⟨rA, rc, rp⟩, hrr⟩ : ∃ r, r = T.getD k zPR := ⟨_, rfl⟩
    rw [← hrr] at hcw hrun5 hx5
    simp only at hcw hrun5 hx5
    have hk0 : (0 : Int) ≤ k := by omega
    have hg4 : g < w3.heap.size := by omega
    have hkN : (k : Int) < ((2 + N' : Nat) : Int) := by omega
    clear hr4 hap4 hdl hpl hce hrr hTl hP3 hR4
    subst hW4
    simp only [World.size_alloc] at hrun5
    go_wp2_with (at_builtin; refine wpList_step (fun K hK => step_append_ex (o := ⟨some 58, _, _, _, _, _⟩) (.tmp 52) (.tmp 57) 33 rfl (by rfl) ?_); (with_reducible refine app_ex hrun5 ?_ (hK _ _ ?_)); rfl)
    obtain ⟨W4, hW4⟩ : ∃ W4, W4 = w3.alloc (Obj.cells #[.int .i64 st, .slice A3 Kn c3] 31) := ⟨_, rfl⟩
    rw [← hW4] at f4 hP4 hR5 hb14 hb5 hx5
    obtain ⟨x, rfl, hx1, hx2⟩ := hx5.some_of (by omega)
    obtain ⟨P3, hP3e⟩ : ∃ P3, P3 = w3.heap.size := ⟨_, rfl⟩
    rw [← hP3e] at f4 ⊢
    have hP3W : P3 < W4.heap.size := (Array.getElem?_eq_some_iff.1 f4).1
    clear hW4 hrun5 hcw hb34
    replace f4 := hide f4
    replace hP3e := hide hP3e
    replace hT4 := hide hT4
    go_loopw [19, 20] (fun s19 s20 wr => ∃ (i : Nat) (ps : List Pg) (b : Bool), i ≤ 4 + q + 2 ∧ s20 = .int .i64 i ∧ s19 = .bool b ∧ Hid (b = (ps.take i).any (fun p => decide (p.1 ≠ 0))) ∧ Xr wr W4.heap.size g (some ⟨x, 0, none⟩) (4 + q + 2) c6 ps ∧ Below W4.heap.size W4 wr) (fun _ s20 _ => 4 + q + 2 - (intOf s20).toNat)
    case atStart => exact ⟨0, rp, false, by omega, rfl, rfl, rfl, hx5, hb5⟩
    case round =>
      clear hx5 hb5 hx2
      obtain ⟨i, ps, b, hi, rfl, rfl, hbb, hx, hbr⟩ := hrel
      have hzr := hbr.size
      by_cases hid : i < 4 + q + 2
      · have hidI : (i : Int) < 6 + (q : Int) := by omega
        have hidI2 : (i : Int) < ((4 + q + 2 : Nat) : Int) := by omega
        have hi0 : (0 : Int) ≤ i := by omega
        -- WAYS{
        by_cases hiM : i < M
        · have hiMI : (i : Int) < M := by omega
          have hil : i < sts.length := by rw [← unhide hM']; exact hiM
          obtain ⟨b3, o3, rfl, _, hb3l, hr3⟩ := hs4.at_ (k := i) (by rw [In.len]; exact hil)
          have hc3' : wr.cell? ⟨b3, o3 + i, none⟩ = some (.int .i64 sts[i]) := by
            have := rd_cell ((rd_below (hb14.trans (hbr.mono hb14.size)) hb3l _ _).trans hr3) 0 (by omega)
            rw [Nat.mul_one, Nat.add_zero] at this
            rw [this]
            simp [In]
          have hy := hw4 _ (List.getElem_mem hil)
          obtain ⟨y, hye⟩ : ∃ y, y = sts[i] := ⟨_, rfl⟩
          rw [← hye] at hc3' hy
          obtain ⟨j, hj, hwj⟩ := w13_lt y 4 hy (by omega) (by omega)
          clear hr3 hye hy
          rcases (show j = 0 ∨ j = 1 ∨ j = 2 ∨ j = 3 by omega) with hj0 | hj0 | hj0 | hj0
          · have t0 : ((j : Int) == 0) = true := by simp; omega
            obtain ⟨hx7, n1, n2, f1, f2⟩ := hx.set hx1 i hid ((0, none, 0, []) : Pg) (PgOk.bad _ 0) ⟨by decide, by decide⟩ (fun a ha => by cases ha)
            obtain ⟨v1, n1⟩ := some_of_ne n1
            obtain ⟨v2, n2⟩ := some_of_ne n2
            have hx8 : Xr ((wr.setCell ⟨x, i * 2, none⟩ (.int .i64 0)).setCell ⟨x, i * 2 + 1, none⟩ (.slice none 0 0)) W4.heap.size g (some ⟨x, 0, none⟩) (4 + q + 2) c6 (ps.set i ((0, none, 0, []) : Pg)) := hx7
            have hb8 : Below W4.heap.size W4 ((wr.setCell ⟨x, i * 2, none⟩ (.int .i64 0)).setCell ⟨x, i * 2 + 1, none⟩ (.slice none 0 0)) := (hbr.setCell hx1 _).setCell hx1 _
            have hany := any_set ((0, none, 0, []) : Pg) (ps := ps) (i := i) (by rw [← hx.len]; exact hid)
            rw [← unhide hbb] at hany
            clear hx hx7 hbr hbb
            replace hj0 := hide hj0
            go_wp2_with fail
            refine (hwj _).mono ?_
            rintro e wq ⟨rfl, rfl⟩
            have hst9 := hany.symm
            replace hst9 := hide hst9
            cases b with
            | true =>
              go_wp2_with fail
              go_roundw
              case rel => exact ⟨i + 1, ps.set i ((0, none, 0, []) : Pg), _, by omega, by go_num, rfl, hide (Eq.trans (by first | rfl | decide | simp) (unhide hst9)), hx8, hb8⟩
              case measure => simp [intOf]; omega
            | false =>
              go_wp2_with fail
              go_roundw
              case rel => exact ⟨i + 1, ps.set i ((0, none, 0, []) : Pg), _, by omega, by go_num, rfl, hide (Eq.trans (by first | rfl | decide | simp) (unhide hst9)), hx8, hb8⟩
              case measure => simp [intOf]; omega
          · have t0 : ((j : Int) == 0) = false := by simp; omega
            have t1 : ((j : Int) == 1) = true := by simp; omega
            obtain ⟨hx7, n1, n2, f1, f2⟩ := hx.set hx1 i hid badPg (PgOk.bad _ 1) ⟨by decide, by decide⟩ (fun a ha => by cases ha)
            obtain ⟨v1, n1⟩ := some_of_ne n1
            obtain ⟨v2, n2⟩ := some_of_ne n2
            have hx8 : Xr ((wr.setCell ⟨x, i * 2, none⟩ (.int .i64 1)).setCell ⟨x, i * 2 + 1, none⟩ (.slice none 0 0)) W4.heap.size g (some ⟨x, 0, none⟩) (4 + q + 2) c6 (ps.set i badPg) := hx7
            have hb8 : Below W4.heap.size W4 ((wr.setCell ⟨x, i * 2, none⟩ (.int .i64 1)).setCell ⟨x, i * 2 + 1, none⟩ (.slice none 0 0)) := (hbr.setCell hx1 _).setCell hx1 _
            have hany := any_set badPg (ps := ps) (i := i) (by rw [← hx.len]; exact hid)
            rw [← unhide hbb] at hany
            clear hx hx7 hbr hbb
            replace hj0 := hide hj0
            go_wp2_with fail
            refine (hwj _).mono ?_
            rintro e wq ⟨rfl, rfl⟩
            have hst9 := hany.symm
            replace hst9 := hide hst9
            cases b with
            | true =>
              go_wp2_with fail
              go_roundw
              case rel => exact ⟨i + 1, ps.set i badPg, _, by omega, by go_num, rfl, hide (Eq.trans (by first | rfl | decide | simp) (unhide hst9)), hx8, hb8⟩
              case measure => simp [intOf]; omega
            | false =>
              go_wp2_with fail
              go_roundw
              case rel => exact ⟨i + 1, ps.set i badPg, _, by omega, by go_num, rfl, hide (Eq.trans (by first | rfl | decide | simp) (unhide hst9)), hx8, hb8⟩
              case measure => simp [intOf]; omega
          · have t0 : ((j : Int) == 0) = false := by simp; omega
            have t1 : ((j : Int) == 1) = false := by simp; omega
            have t2 : ((j : Int) == 2) = true := by simp; omega
            have hdw := hdat wr (hb14.trans (hbr.mono hb14.size))
            replace hj0 := hide hj0
            go_wp2_with fail
            refine (hwj _).mono ?_
            rintro e wq ⟨rfl, rfl⟩
            go_wp2_with fail
            (with_reducible refine hdw.mono ?_)
            rintro e w8 ⟨A8, c8, rfl, hc8, hs8, hA8, hb8⟩
            have hx' := hx.below hb8
            have hx2 := hx.some_of (by omega)
            obtain ⟨x', hxe, _, hxw⟩ := hx2
            injection hxe with hxe
            injection hxe with hxe
            subst hxe
            have hgw : g < wr.heap.size := by have := hx.lo; have := hbr.size; omega
            have hpg : PgOk w8 ((2, A8, c8, D) : Pg) := ⟨by show D.length ≤ c8; rw [unhide hDl]; exact hc8, by show D.length ≤ 1000000; rw [unhide hDl]; omega, (hs8.less (Nat.zero_le _)), fun a ha => (hA8 a ha).2, unhide hDb⟩
            obtain ⟨hx7, n1, n2, f1, f2⟩ := hx'.set hx1 i hid ((2, A8, c8, D) : Pg) hpg (show I64 2 from ⟨by decide, by decide⟩) (fun a ha => ⟨by have := (hA8 a ha).1; omega, by have := (hA8 a ha).1; omega⟩)
            obtain ⟨v1, n1⟩ := some_of_ne n1
            obtain ⟨v2, n2⟩ := some_of_ne n2
            have hcl8 : Prod.snd ((2, A8, c8, D) : Pg) = (A8, c8, D) := rfl
            have hx8 : Xr ((w8.setCell ⟨x, i * 2, none⟩ (.int .i64 2)).setCell ⟨x, i * 2 + 1, none⟩ (.slice A8 48 c8)) W4.heap.size g (some ⟨x, 0, none⟩) (4 + q + 2) c6 (ps.set i (2, A8, c8, D)) := by have := hx7; simp only [Hr.cell, unhide hDl] at this; exact this
            have hb9 : Below W4.heap.size W4 ((w8.setCell ⟨x, i * 2, none⟩ (.int .i64 2)).setCell ⟨x, i * 2 + 1, none⟩ (.slice A8 48 c8)) := ((hbr.trans (hb8.mono hbr.size)).setCell hx1 _).setCell hx1 _
            have hany := any_set ((2, A8, c8, D) : Pg) (ps := ps) (i := i) (by rw [← hx.len]; exact hid)
            rw [← unhide hbb] at hany
            clear hx hx' hx7 hbr hbb hpg hs8 hA8 hb8 hdw hcl8
            have hst9 := hany.symm
            replace hst9 := hide hst9
            cases b with
            | true =>
              go_wp2_with fail
              go_roundw
              case rel => exact ⟨i + 1, ps.set i (2, A8, c8, D), _, by omega, by go_num, rfl, hide (Eq.trans (by first | rfl | decide | simp) (unhide hst9)), hx8, hb9⟩
              case measure => simp [intOf]; omega
            | false =>
              go_wp2_with fail
              go_roundw
              case rel => exact ⟨i + 1, ps.set i (2, A8, c8, D), _, by omega, by go_num, rfl, hide (Eq.trans (by first | rfl | decide | simp) (unhide hst9)), hx8, hb9⟩
              case measure => simp [intOf]; omega
          · have t0 : ((j : Int) == 0) = false := by simp; omega
            have t1 : ((j : Int) == 1) = false := by simp; omega
            have t2 : ((j : Int) == 2) = false := by simp; omega
            have hip : i < ps.length := by rw [← hx.len]; exact hid
            have hst : wr.cell? ⟨x, i * 2, none⟩ = some (.int .i64 ps[i].1) := by
              obtain ⟨b', o', e', _, _, hr⟩ := (hx.own.sl (Pg.sized _) (by omega)).at_ (k := i) (by rw [List.length_map]; exact hip)
              injection e' with e'
              injection e' with e2 e3 _
              subst e2 e3
              have := rd_cell hr 0 (by omega)
              rw [Nat.zero_add, Nat.add_zero] at this
              rw [this]
              simp [Pg.arr]
            obtain ⟨sv, hsv⟩ : ∃ sv, sv = ps[i].1 := ⟨_, rfl⟩
            rw [← hsv] at hst
            have hany := any_same (ps := ps) (i := i) hip
            rw [← unhide hbb, ← hsv] at hany
            clear hbb hip hsv
            replace hj0 := hide hj0
            go_wp2_with fail
            refine (hwj _).mono ?_
            rintro e wq ⟨rfl, rfl⟩
            by_cases hs0 : sv = 0
            · have hsB : (sv == 0) = true := by simp [hs0]
              replace hs0 := hide hs0
              have hst9 := hany.symm
              replace hst9 := hide hst9
              cases b with
              | true =>
                go_wp2_with fail
                go_roundw
                case rel => exact ⟨i + 1, ps, _, by omega, by go_num, rfl, hide (Eq.trans (by first | rfl | decide | simp [unhide hs0]) (unhide hst9)), hx, hbr⟩
                case measure => simp [intOf]; omega
              | false =>
                go_wp2_with fail
                go_roundw
                case rel => exact ⟨i + 1, ps, _, by omega, by go_num, rfl, hide (Eq.trans (by first | rfl | decide | simp [unhide hs0]) (unhide hst9)), hx, hbr⟩
                case measure => simp [intOf]; omega
            · have hsB : (sv == 0) = false := by simp [hs0]
              replace hs0 := hide hs0
              have hst9 := hany.symm
              replace hst9 := hide hst9
              cases b with
              | true =>
                go_wp2_with fail
                go_roundw
                case rel => exact ⟨i + 1, ps, _, by omega, by go_num, rfl, hide (Eq.trans (by first | rfl | decide | simp [unhide hs0]) (unhide hst9)), hx, hbr⟩
                case measure => simp [intOf]; omega
              | false =>
                go_wp2_with fail
                go_roundw
                case rel => exact ⟨i + 1, ps, _, by omega, by go_num, rfl, hide (Eq.trans (by first | rfl | decide | simp [unhide hs0]) (unhide hst9)), hx, hbr⟩
                case measure => simp [intOf]; omega
        · have hiMI : ¬ (i : Int) < M := by omega
          have hip : i < ps.length := by rw [← hx.len]; exact hid
          have hst : wr.cell? ⟨x, i * 2, none⟩ = some (.int .i64 ps[i].1) := by
            obtain ⟨b', o', e', _, _, hr⟩ := (hx.own.sl (Pg.sized _) (by omega)).at_ (k := i) (by rw [List.length_map]; exact hip)
            injection e' with e'
            injection e' with e2 e3 _
            subst e2 e3
            have := rd_cell hr 0 (by omega)
            rw [Nat.zero_add, Nat.add_zero] at this
            rw [this]
            simp [Pg.arr]
          obtain ⟨sv, hsv⟩ : ∃ sv, sv = ps[i].1 := ⟨_, rfl⟩
          rw [← hsv] at hst
          have hany := any_same (ps := ps) (i := i) hip
          rw [← unhide hbb, ← hsv] at hany
          clear hbb hip hsv
          by_cases hs0 : sv = 0
          · have hsB : (sv == 0) = true := by simp [hs0]
            replace hs0 := hide hs0
            have hst9 := hany.symm
            replace hst9 := hide hst9
            cases b with
            | true =>
              go_wp2_with fail
              go_roundw
              case rel => exact ⟨i + 1, ps, _, by omega, by go_num, rfl, hide (Eq.trans (by first | rfl | decide | simp [unhide hs0]) (unhide hst9)), hx, hbr⟩
              case measure => simp [intOf]; omega
            | false =>
              go_wp2_with fail
              go_roundw
              case rel => exact ⟨i + 1, ps, _, by omega, by go_num, rfl, hide (Eq.trans (by first | rfl | decide | simp [unhide hs0]) (unhide hst9)), hx, hbr⟩
              case measure => simp [intOf]; omega
          · have hsB : (sv == 0) = false := by simp [hs0]
            replace hs0 := hide hs0
            have hst9 := hany.symm
            replace hst9 := hide hst9
            cases b with
            | true =>
              go_wp2_with fail
              go_roundw
              case rel => exact ⟨i + 1, ps, _, by omega, by go_num, rfl, hide (Eq.trans (by first | rfl | decide | simp [unhide hs0]) (unhide hst9)), hx, hbr⟩
              case measure => simp [intOf]; omega
            | false =>
              go_wp2_with fail
              go_roundw
              case rel => exact ⟨i + 1, ps, _, by omega, by go_num, rfl, hide (Eq.trans (by first | rfl | decide | simp [unhide hs0]) (unhide hst9)), hx, hbr⟩
              case measure => simp [intOf]; omega
        -- }WAYS
      · obtain rfl : i = 4 + q + 2 := by omega
        have hidI : ¬ ((4 + q + 2 : Nat) : Int) < 6 + (q : Int) := by omega
        have hbs : b = stB ps := by
          rw [unhide hbb, List.take_of_length_le (by rw [← hx.len]; exact Nat.le_refl _)]
          rfl
        have hPr := hP4.below hbr
        obtain ⟨A9, c9, w9, hrun9, hP9, hc9, hb9⟩ := Pn.copy wr w1.heap.size (some ⟨g, 0, none⟩) (2 + N') c2 T hPr (unhide hT).symm (by omega) (by omega) 27
        obtain ⟨g9, rfl, hg91, hg92, hjunk⟩ := hP9.some_of (by omega)
        clear hjunk
        have hx9 := hx.below hb9
        have hxr : PrOk w9 (some ⟨x, 0, none⟩, c6, ps) := ⟨by show ps.length ≤ c6; rw [← hx.len]; exact hx.hc, by show ps.length ≤ 1000; rw [← hx.len]; exact hx.le, hx.i64, (hx9.own.sl (Pg.sized _) (by omega)).less (Nat.zero_le _), hx9.at_⟩
        have hxw : x < wr.heap.size := (hx.own.lt x rfl).2
        have hpr : PR.cell ((some ⟨x, 0, none⟩, c6, ps) : PR) = .slice (some ⟨x, 0, none⟩) (4 + q + 2) c6 := by rw [PR.cell, ← hx.len]
        obtain ⟨hP10, hc10, hf10⟩ := hP9.setRow (unhide hT).symm k (by omega) (some ⟨x, 0, none⟩, c6, ps) hxr ⟨fun a ha => by cases ha; exact ⟨Nat.lt_of_lt_of_le hxw hb9.size, fun e => by injection e with e; simp only at e; omega⟩, fun p hp a ha e => by injection e with e; have := (hx.at_ p hp).2.2.2.1 a ha; omega⟩
        rw [hpr] at hP10
        obtain ⟨v10, hv10⟩ : ∃ v, w9.cell? ⟨g9, k, none⟩ = some v := ⟨_, hc10⟩
        have hb10 : Below W4.heap.size W4 (w9.setCell ⟨g9, k, none⟩ (.slice (some ⟨x, 0, none⟩) (4 + q + 2) c6)) := (hbr.trans (hb9.mono hzr)).setCell (by show W4.heap.size ≤ g9; omega) _
        have hlk := look_pn 1 (some ⟨g9, 0, none⟩) c9 (2 + N') wr.heap.size _ _ hP10 (by rw [List.length_set]; exact (unhide hT).symm) (by omega) hc9
        have hrows := look_torn (r := (some ⟨x, 0, none⟩, c6, ps)) (unhide hmade) (by omega) hwf (by omega) (by omega)
        rw [show ((some ⟨x, 0, none⟩, c6, ps) : PR).2.2 = ps from rfl, ← hbs] at hrows
        obtain ⟨⟨st2, rows2⟩, hlp2⟩ : ∃ r, r = lookP 1 (T.set k (some ⟨x, 0, none⟩, c6, ps)) := ⟨_, rfl⟩
        rw [← hlp2] at hrows hlk
        simp only at hrows
        obtain ⟨W, hW⟩ : ∃ W, W = if b = true then k else k - 1 := ⟨_, rfl⟩
        rw [← hW] at hrows
        have hrl2 : rows2.length = W := by rw [hrows, List.length_map, List.length_range]
        unfold LkA at hlk
        simp only at hlk
        rw [hrl2] at hlk
        have hWk : W ≤ k := by rw [hW]; split <;> omega
        clear hx hx9 hxr hPr hP9 hc10 hlp2 hrl2 hbb hbs hpr hP10
        replace hrows := hide hrows
        replace hW := hide hW
        go_wp2_with (at_builtin; refine wpList_step (fun K hK => step_append_ex (o := ⟨some 104, _, _, _, _, _⟩) (.tmp 102) (.tmp 103) 27 rfl (by rfl) ?_); (with_reducible refine app_ex hrun9 ?_ (hK _ _ ?_)); rfl)
        (with_reducible refine hlk.mono ?_)
        rintro e w11 ⟨⟨A11, c11, T5, rfl, hc11, hT5, hR11⟩, hb11⟩
        clear hlk hrun9
        obtain ⟨W12, hW12⟩ : ∃ W12, W12 = w11.alloc (Obj.cells #[.int .i64 st2, .slice A11 W c11] 31) := ⟨_, rfl⟩
        obtain ⟨P22, hP22⟩ : ∃ P22, P22 = w11.heap.size := ⟨_, rfl⟩
        have hb1112 : Below w11.heap.size w11 W12 := by rw [hW12]; exact (Below.refl _ _).alloc (Nat.le_refl _) _
        have g22 : W12.heap[P22]? = some (.cells #[.int .i64 st2, .slice A11 W c11] 31 (0, 0)) := by rw [hW12, hP22]; exact heap_alloc_new _ _
        have hb4w : Below W4.heap.size W4 w11 := hb10.trans (hb11.mono hb10.size)
        have hb412 : Below W4.heap.size W4 W12 := hb4w.trans (hb1112.mono hb4w.size)
        have g3 : W12.heap[P3]? = some (.cells #[.int .i64 st, .slice A3 Kn c3] 31 (0, 0)) := (hb412.block P3 hP3W).trans (unhide f4)
        have u22 : W12.cell? ⟨P22, 1, none⟩ = some (.slice A11 W c11) := by simp [World.cell?, g22]
        have u3 : W12.cell? ⟨P3, 1, none⟩ = some (.slice A3 Kn c3) := by simp [World.cell?, g3]
        have u30 : W12.cell? ⟨P3, 0, none⟩ = some (.int .i64 st) := by simp [World.cell?, g3]
        have g3' : w11.heap[P3]? = some (.cells #[.int .i64 st, .slice A3 Kn c3] 31 (0, 0)) := (hb4w.block P3 hP3W).trans (unhide f4)
        have d30 : w11.cell? ⟨P3, 0, none⟩ = some (.int .i64 st) := by simp [World.cell?, g3']
        have d31 : w11.cell? ⟨P3, 1, none⟩ = some (.slice A3 Kn c3) := by simp [World.cell?, g3']
        have hP3z : P3 < w11.heap.size := (Array.getElem?_eq_some_iff.1 g3').1
        have hP3n : ¬ P3 = w11.heap.size := by omega
        clear g3'
        have hR12 := hR11.below hb1112
        have hR4' := hR5.below hb412
        have hs5 : Sl W12 0 W12.heap.size 3 A11 (T5.map RowD.arr) := (hR12.1.sl (RowD.sized _) (by omega)).less (Nat.zero_le _)
        have hs4r : Sl W12 0 W12.heap.size 3 A3 (T4.map RowD.arr) := (hR4'.1.sl (RowD.sized _) (by omega)).less (Nat.zero_le _)
        have ho5 : ∀ t ∈ T5, RowOk W12 0 t := fun t ht => (hR12.2 t ht).1.less (Nat.zero_le _)
        have ho4 : ∀ t ∈ T4, RowOk W12 0 t := fun t ht => (hR4'.2 t ht).1.less (Nat.zero_le _)
        have hT5 : T5.map RowD.pl = (List.range W).map fun (j : Nat) => ((wrote es (4 + q) (2 + N') j).1, (j : Int), (wrote es (4 + q) (2 + N') j).2) := hT5.trans (unhide hrows)
        have hT4' : T4.map RowD.pl = (List.range k).map fun (j : Nat) => ((wrote es (4 + q) (2 + N') j).1, (j : Int), (wrote es (4 + q) (2 + N') j).2) := (unhide hT4).trans (unhide hk2)
        have hl5 : T5.length = W := by have := congrArg List.length hT5; simpa using this
        have hl4 : T4.length = Kn := by have := congrArg List.length hT4'; rw [unhide hKk]; simpa using this
        have hb12w : Below w.heap.size w W12 := hb14.trans (hb412.mono hb14.size)
        replace hT5 := hide hT5; replace hT4' := hide hT4'; replace hl5 := hide hl5; replace hl4 := hide hl4
        have hkq : ((Kn : Int) != 1 + (k : Int) - 1) = false := bne_eq_false_iff_eq.2 (by have := unhide hKk; omega)
        clear hR11 hR12 hR4' hR5 hb4w hb1112 g22 g3 hb11 hP4 f4
        have hk1 := unhide hk1
        replace hW12 := hide hW12
        replace hP22 := hide hP22
        have hNB : ((1 : Int) + (k : Int) == 2 + (N' : Int)) = decide (k + 1 = 2 + N') := by
          by_cases h : k + 1 = 2 + N'
          · rw [decide_eq_true h]; exact beq_iff_eq.2 (by omega)
          · rw [decide_eq_false h]; exact beq_eq_false_iff_ne.2 (by omega)
        have hstB : (st == 2) = decide (k + 1 = 2 + N') := by
          rw [hk1]
          by_cases h : k + 1 = 2 + N'
          · rw [if_pos h, decide_eq_true h]; rfl
          · rw [if_neg h, decide_eq_false h]; rfl
        clear hk1
        generalize decide (k + 1 = 2 + N') = fl at hNB hstB
        cases b with
        | true =>
          have hWt : W = k := by rw [unhide hW]; rfl
          replace hW := hide hW
          replace hWt := hide hWt
          have hlen : ((W : Int) != 1 + (k : Int) - 1) = false := by have := unhide hWt; exact bne_eq_false_iff_eq.2 (by omega)
          have hstn : (!((st == 2) == ((1 : Int) + (k : Int) == 2 + (N' : Int)))) = false := by rw [hNB, hstB]; cases fl <;> rfl
          clear hNB hstB
          go_wp2_with fail
          rw [← unhide hW12, ← unhide hP22]
          clear d30 d31 hP3n hP3z hW12 hkq hlen hstn
          replace hWt := unhide hWt
          have hWI : (W : Int) = 1 + (k : Int) - 1 := by omega
          replace hWt := hide hWt
          have hWk0 : W ≤ k := hWk
          replace hWI := hide hWI
          -- LOOPA{
          go_loopw [24] (fun s24 wl => ∃ (i : Nat), i ≤ W ∧ s24 = .int .i64 i ∧ Below W12.heap.size W12 wl) (fun s24 _ => W - (intOf s24).toNat)
          case atStart => exact ⟨0, Nat.zero_le _, rfl, Below.refl _ _⟩
          case round =>
            rename World => wl
            obtain ⟨i, hi, rfl, hbl⟩ := hrel
            have hzl := hbl.size
            by_cases hiW : i < W
            · have hiWI : (i : Int) < 1 + (k : Int) - 1 := by have := unhide hWI; omega
              have hiWN : (i : Int) < W := by omega
              have hikN : (i : Int) < Kn := by have := unhide hKk; omega
              have hi0 : (0 : Int) ≤ i := by omega
              have hi1000 : i ≤ 1000 := by omega
              have hiT5 : i < T5.length := by rw [unhide hl5]; exact hiW
              have hiT4 : i < T4.length := by rw [unhide hl4]; have := unhide hKk; omega
              obtain ⟨b1, o1, rfl, _, hb1l, hr1⟩ := hs5.at_ (k := i) (by rw [List.length_map]; exact hiT5)
              obtain ⟨b2, o2, rfl, _, hb2l, hr2⟩ := hs4r.at_ (k := i) (by rw [List.length_map]; exact hiT4)
              simp only [List.getElem_map] at hr1 hr2
              have hp1 : T5[i].pl = (10 + (i : Int), (i : Int), (wrote es (4 + q) (2 + N') i).2) := by
                have : (T5.map RowD.pl)[i]? = some (10 + (i : Int), (i : Int), (wrote es (4 + q) (2 + N') i).2) := by
                  rw [unhide hT5]; simp [List.getElem?_map, List.getElem?_range hiW, wrote]
                rw [List.getElem?_map, List.getElem?_eq_getElem (by assumption)] at this
                simpa using this
              have hp2 : T4[i].pl = (10 + (i : Int), (i : Int), (wrote es (4 + q) (2 + N') i).2) := by
                have : (T4.map RowD.pl)[i]? = some (10 + (i : Int), (i : Int), (wrote es (4 + q) (2 + N') i).2) := by
                  rw [unhide hT4']; simp [List.getElem?_map, List.getElem?_range (show i < k by omega), wrote]
                rw [List.getElem?_map, List.getElem?_eq_getElem (by assumption)] at this
                simpa using this
              have k1 := ho5 _ (List.getElem_mem hiT5)
              have k2 := ho4 _ (List.getElem_mem hiT4)
              generalize T5[i] = t1 at hr1 hp1 k1
              generalize T4[i] = t2 at hr2 hp2 k2
              obtain ⟨s1', t1', A13, c13, e13⟩ := t1
              obtain ⟨s2', t2', A14, c14, e14⟩ := t2
              simp only [RowD.pl, Prod.mk.injEq] at hp1 hp2
              obtain ⟨rfl, rfl, he13⟩ := hp1
              obtain ⟨rfl, rfl, he14⟩ := hp2
              obtain rfl : e13 = e14 := he13.trans he14.symm
              obtain ⟨kk, hkk⟩ : ∃ kk, kk = e13.length := ⟨_, rfl⟩
              have hsr := samerow_any (10 + (i : Int)) i (10 + (i : Int)) i A13 A14 c13 c14 kk kk e13 e13 wl.drew hkk hkk (by rw [hkk]; exact k1.2.1) ((k1.2.2.2.below hbl).more hzl).drew ((k2.2.2.2.below hbl).more hzl).drew
              rw [show sameB (10 + (i : Int)) i (10 + (i : Int)) i e13 e13 = true from decide_eq_true ⟨rfl, rfl, rfl⟩] at hsr
              have qa := fun j hj => (hbl.cell (p := ⟨b1, o1 + i * 3 + j, none⟩) hb1l).trans (rd_cell hr1 j hj)
              have ra := fun j hj => (hbl.cell (p := ⟨b2, o2 + i * 3 + j, none⟩) hb2l).trans (rd_cell hr2 j hj)
              have p1 := (hbl.cell (World.block_lt_of_cell? _ _ u22)).trans u22
              have p2 := (hbl.cell (World.block_lt_of_cell? _ _ u3)).trans u3
              have keep0 : ∀ w', Below wl.heap.size wl w' → w'.cell? ⟨P22, 1, none⟩ = some (.slice (some ⟨b1, o1, none⟩) W c11) ∧ w'.cell? ⟨P3, 1, none⟩ = some (.slice (some ⟨b2, o2, none⟩) Kn c3) ∧ w'.cell? ⟨b1, o1 + i * 3, none⟩ = some (.int .i64 (10 + (i : Int))) ∧ w'.cell? ⟨b1, o1 + i * 3 + 1, none⟩ = some (.int .i64 i) ∧ w'.cell? ⟨b1, o1 + i * 3 + 2, none⟩ = some (.slice A13 kk c13) ∧ w'.cell? ⟨b2, o2 + i * 3, none⟩ = some (.int .i64 (10 + (i : Int))) ∧ w'.cell? ⟨b2, o2 + i * 3 + 1, none⟩ = some (.int .i64 i) ∧ w'.cell? ⟨b2, o2 + i * 3 + 2, none⟩ = some (.slice A14 kk c14) := by
                intro w' hb'
                have hx := fun (p : Addr) (v : Value) (h : wl.cell? p = some v) => (hb'.cell (World.block_lt_of_cell? _ _ h)).trans h
                refine ⟨hx _ _ p1, hx _ _ p2, hx _ _ ?_, hx _ _ ?_, hx _ _ ?_, hx _ _ ?_, hx _ _ ?_, hx _ _ ?_⟩
                · exact qa 0 (by omega)
                · exact qa 1 (by omega)
                · rw [hkk]; exact qa 2 (by omega)
                · exact ra 0 (by omega)
                · exact ra 1 (by omega)
                · rw [hkk]; exact ra 2 (by omega)
              clear qa ra hr1 hr2 k1 k2 he13 he14
              replace hkk := hide hkk
              replace hsr := hide hsr
              go_wp2_with fail
              refine start_ (n := 33) (S := fun w' => w'.cell? ⟨P22, 1, none⟩ = some (.slice (some ⟨b1, o1, none⟩) W c11) ∧ w'.cell? ⟨P3, 1, none⟩ = some (.slice (some ⟨b2, o2, none⟩) Kn c3) ∧ w'.cell? ⟨b1, o1 + i * 3, none⟩ = some (.int .i64 (10 + (i : Int))) ∧ w'.cell? ⟨b1, o1 + i * 3 + 1, none⟩ = some (.int .i64 i) ∧ w'.cell? ⟨b1, o1 + i * 3 + 2, none⟩ = some (.slice A13 kk c13) ∧ w'.cell? ⟨b2, o2 + i * 3, none⟩ = some (.int .i64 (10 + (i : Int))) ∧ w'.cell? ⟨b2, o2 + i * 3 + 1, none⟩ = some (.int .i64 i) ∧ w'.cell? ⟨b2, o2 + i * 3 + 2, none⟩ = some (.slice A14 kk c14)) (ds := []) #[false,false,false,false,false,false,false,false,false,false,false,false,false,false,false,false,false,false,false,false,false,false,false,false,false,false,false,false,false,false,false,false,false] (by kernel_rfl) rfl rfl (keep0 _ (Below.refl _ _).drew) (fun hHeld => ?_)
              refine pure_ (i := 0) (N := some 143) (v := ?_) (a' := ?_) #[true,false,false,false,false,false,false,false,false,false,false,false,false,false,false,false,false,false,false,false,false,false,false,false,false,false,false,false,false,false,false,false,false] rfl rfl (by kernel_rfl) (fun _ _ _ h => h) (Or.inl ⟨by rfl, ?_⟩) ?_ ?_
              rotate_left
              · intro w'
                go_simp
                with_reducible rfl
              rotate_left
              · simp only [Act.put, List.setIfInBounds_toArray, List.set_cons_zero, List.set_cons_succ, i64_w, i32_w]
                rfl
              refine take_ (i := 1) (N := some 144) (v := ?_) (a' := ?_) #[true,true,false,false,false,false,false,false,false,false,false,false,false,false,false,false,false,false,false,false,false,false,false,false,false,false,false,false,false,false,false,false,false] rfl rfl (by kernel_rfl) (fun _ _ _ h => h) (Or.inl ⟨by rfl, ?_⟩) hHeld ?_ ?_
              rotate_left
              · intro w' hs_; obtain ⟨s0, s1, s2, s3, s4, s5, s6, s7⟩ := hs_
                go_simp
                with_reducible rfl
              rotate_left
              · simp only [Act.put, List.setIfInBounds_toArray, List.set_cons_zero, List.set_cons_succ, i64_w, i32_w]
                rfl
              refine pure_ (i := 2) (N := some 145) (v := ?_) (a' := ?_) #[true,true,true,false,false,false,false,false,false,false,false,false,false,false,false,false,false,false,false,false,false,false,false,false,false,false,false,false,false,false,false,false,false] rfl rfl (by kernel_rfl) (fun _ _ _ h => h) (Or.inl ⟨by rfl, ?_⟩) ?_ ?_
              rotate_left
              · intro w'
                go_simp
                with_reducible rfl
              rotate_left
              · simp only [Act.put, List.setIfInBounds_toArray, List.set_cons_zero, List.set_cons_succ, i64_w, i32_w]
                rfl
              refine pure_ (i := 3) (N := some 146) (v := ?_) (a' := ?_) #[true,true,true,true,false,false,false,false,false,false,false,false,false,false,false,false,false,false,false,false,false,false,false,false,false,false,false,false,false,false,false,false,false] rfl rfl (by kernel_rfl) (fun _ _ _ h => h) (Or.inl ⟨by rfl, ?_⟩) ?_ ?_
              rotate_left
              · intro w'
                go_simp
                with_reducible rfl
              rotate_left
              · simp only [Act.put, List.setIfInBounds_toArray, List.set_cons_zero, List.set_cons_succ, i64_w, i32_w]
                rfl
              refine take_ (i := 4) (N := some 147) (v := ?_) (a' := ?_) #[true,true,true,true,true,false,false,false,false,false,false,false,false,false,false,false,false,false,false,false,false,false,false,false,false,false,false,false,false,false,false,false,false] rfl rfl (by kernel_rfl) (fun _ _ _ h => h) (Or.inl ⟨by rfl, ?_⟩) hHeld ?_ ?_
              rotate_left
              · intro w' hs_; obtain ⟨s0, s1, s2, s3, s4, s5, s6, s7⟩ := hs_
                go_simp
                with_reducible rfl
              rotate_left
              · simp only [Act.put, List.setIfInBounds_toArray, List.set_cons_zero, List.set_cons_succ, i64_w, i32_w]
                rfl
              refine pure_ (i := 5) (N := some 148) (v := ?_) (a' := ?_) #[true,true,true,true,true,true,false,false,false,false,false,false,false,false,false,false,false,false,false,false,false,false,false,false,false,false,false,false,false,false,false,false,false] rfl rfl (by kernel_rfl) (fun _ _ _ h => h) (Or.inl ⟨by rfl, ?_⟩) ?_ ?_
              rotate_left
              · intro w'
                go_simp
                with_reducible rfl
              rotate_left
              · simp only [Act.put, List.setIfInBounds_toArray, List.set_cons_zero, List.set_cons_succ, i64_w, i32_w]
                rfl
              refine take_ (i := 6) (N := some 149) (v := ?_) (a' := ?_) #[true,true,true,true,true,true,true,false,false,false,false,false,false,false,false,false,false,false,false,false,false,false,false,false,false,false,false,false,false,false,false,false,false] rfl rfl (by kernel_rfl) (fun _ _ _ h => h) (Or.inl ⟨by rfl, ?_⟩) hHeld ?_ ?_
              rotate_left
              · intro w' hs_; obtain ⟨s0, s1, s2, s3, s4, s5, s6, s7⟩ := hs_
                go_simp
                with_reducible rfl
              rotate_left
              · simp only [Act.put, List.setIfInBounds_toArray, List.set_cons_zero, List.set_cons_succ, i64_w, i32_w]
                rfl
              refine pure_ (i := 7) (N := some 150) (v := ?_) (a' := ?_) #[true,true,true,true,true,true,true,true,false,false,false,false,false,false,false,false,false,false,false,false,false,false,false,false,false,false,false,false,false,false,false,false,false] rfl rfl (by kernel_rfl) (fun _ _ _ h => h) (Or.inl ⟨by rfl, ?_⟩) ?_ ?_
              rotate_left
              · intro w'
                go_simp
                with_reducible rfl
              rotate_left
              · simp only [Act.put, List.setIfInBounds_toArray, List.set_cons_zero, List.set_cons_succ, i64_w, i32_w]
                rfl
              refine pure_ (i := 8) (N := some 151) (v := ?_) (a' := ?_) #[true,true,true,true,true,true,true,true,true,false,false,false,false,false,false,false,false,false,false,false,false,false,false,false,false,false,false,false,false,false,false,false,false] rfl rfl (by kernel_rfl) (fun _ _ _ h => h) (Or.inl ⟨by rfl, ?_⟩) ?_ ?_
              rotate_left
              · intro w'
                go_simp
                with_reducible rfl
              rotate_left
              · simp only [Act.put, List.setIfInBounds_toArray, List.set_cons_zero, List.set_cons_succ, i64_w, i32_w]
                rfl
              refine take_ (i := 9) (N := some 152) (v := ?_) (a' := ?_) #[true,true,true,true,true,true,true,true,true,true,false,false,false,false,false,false,false,false,false,false,false,false,false,false,false,false,false,false,false,false,false,false,false] rfl rfl (by kernel_rfl) (fun _ _ _ h => h) (Or.inl ⟨by rfl, ?_⟩) hHeld ?_ ?_
              rotate_left
              · intro w' hs_; obtain ⟨s0, s1, s2, s3, s4, s5, s6, s7⟩ := hs_
                go_simp
                with_reducible rfl
              rotate_left
              · simp only [Act.put, List.setIfInBounds_toArray, List.set_cons_zero, List.set_cons_succ, i64_w, i32_w]
                rfl
              refine one_ (i := 10) (N := some 153) #[true,true,true,true,true,true,true,true,true,true,true,false,false,false,false,false,false,false,false,false,false,false,false,false,false,false,false,false,false,false,false,false,false] rfl rfl (by kernel_rfl) (by decide) (fun K hK => ?_)
              refine goes_ Try.func14 (by kernel_rfl) rfl #[.agg #[.int .i64 (10 + (i : Int)), .int .i64 i, .slice A13 kk c13], .agg #[.int .i64 (10 + (i : Int)), .int .i64 i, .slice A14 kk c14]] (by rfl) rfl rfl (by (try simp only [List.map_toArray, List.map_cons, List.map_nil]); first | done | rfl) ?_
              with_reducible refine (unhide hsr).mono ?_
              rintro e w6 ⟨rfl, hb6⟩
              have k6 : Below wl.heap.size wl w6 := Below.trans (Below.drew (Below.refl wl.heap.size wl)) hb6
              refine ⟨_, rfl, hK.out _ _ (keep0 _ k6) (fun hHeld => ?_)⟩
              clear hK K
              refine norm_ (a' := ?_) ?_ ?_
              rotate_left
              · show Act.put _ (some 153) _ = _
                simp only [Act.put, List.setIfInBounds_toArray, List.set_cons_zero, List.set_cons_succ, i64_w, i32_w]
                rfl
              refine pure_ (i := 11) (N := some 154) (v := ?_) (a' := ?_) #[true,true,true,true,true,true,true,true,true,true,true,true,false,false,false,false,false,false,false,false,false,false,false,false,false,false,false,false,false,false,false,false,false] rfl rfl (by kernel_rfl) (fun _ _ _ h => h) (Or.inl ⟨by rfl, ?_⟩) ?_ ?_
              rotate_left
              · intro w'
                go_simp
                with_reducible rfl
              rotate_left
              · simp only [Act.put, List.setIfInBounds_toArray, List.set_cons_zero, List.set_cons_succ, i64_w, i32_w]
                rfl
              refine pure_ (i := 12) (N := some 155) (v := ?_) (a' := ?_) #[true,true,true,true,true,true,true,true,true,true,true,true,true,false,false,false,false,false,false,false,false,false,false,false,false,false,false,false,false,false,false,false,false] rfl rfl (by kernel_rfl) (fun _ _ _ h => h) (Or.inl ⟨by rfl, ?_⟩) ?_ ?_
              rotate_left
              · intro w'
                go_simp
                with_reducible rfl
              rotate_left
              · simp only [Act.put, List.setIfInBounds_toArray, List.set_cons_zero, List.set_cons_succ, i64_w, i32_w]
                rfl
              refine pure_ (i := 13) (N := some 156) (v := ?_) (a' := ?_) #[true,true,true,true,true,true,true,true,true,true,true,true,true,true,false,false,false,false,false,false,false,false,false,false,false,false,false,false,false,false,false,false,false] rfl rfl (by kernel_rfl) (fun _ _ _ h => h) (Or.inl ⟨by rfl, ?_⟩) ?_ ?_
              rotate_left
              · intro w'
                go_simp
                with_reducible rfl
              rotate_left
              · simp only [Act.put, List.setIfInBounds_toArray, List.set_cons_zero, List.set_cons_succ, i64_w, i32_w]
                rfl
              refine take_ (i := 14) (N := some 157) (v := ?_) (a' := ?_) #[true,true,true,true,true,true,true,true,true,true,true,true,true,true,true,false,false,false,false,false,false,false,false,false,false,false,false,false,false,false,false,false,false] rfl rfl (by kernel_rfl) (fun _ _ _ h => h) (Or.inl ⟨by rfl, ?_⟩) hHeld ?_ ?_
              rotate_left
              · intro w' hs_; obtain ⟨s0, s1, s2, s3, s4, s5, s6, s7⟩ := hs_
                go_simp
                with_reducible rfl
              rotate_left
              · simp only [Act.put, List.setIfInBounds_toArray, List.set_cons_zero, List.set_cons_succ, i64_w, i32_w]
                rfl
              refine pure_ (i := 15) (N := some 158) (v := ?_) (a' := ?_) #[true,true,true,true,true,true,true,true,true,true,true,true,true,true,true,true,false,false,false,false,false,false,false,false,false,false,false,false,false,false,false,false,false] rfl rfl (by kernel_rfl) (fun _ _ _ h => h) (Or.inl ⟨by rfl, ?_⟩) ?_ ?_
              rotate_left
              · intro w'
                go_simp
                with_reducible rfl
              rotate_left
              · simp only [Act.put, List.setIfInBounds_toArray, List.set_cons_zero, List.set_cons_succ, i64_w, i32_w]
                rfl
              refine pure_ (i := 16) (N := some 159) (v := ?_) (a' := ?_) #[true,true,true,true,true,true,true,true,true,true,true,true,true,true,true,true,true,false,false,false,false,false,false,false,false,false,false,false,false,false,false,false,false] rfl rfl (by kernel_rfl) (fun _ _ _ h => h) (Or.inl ⟨by rfl, ?_⟩) ?_ ?_
              rotate_left
              · intro w'
                go_simp
                with_reducible rfl
              rotate_left
              · simp only [Act.put, List.setIfInBounds_toArray, List.set_cons_zero, List.set_cons_succ, i64_w, i32_w]
                rfl
              refine pure_ (i := 17) (N := some 160) (v := ?_) (a' := ?_) #[true,true,true,true,true,true,true,true,true,true,true,true,true,true,true,true,true,true,false,false,false,false,false,false,false,false,false,false,false,false,false,false,false] rfl rfl (by kernel_rfl) (fun _ _ _ h => h) (Or.inl ⟨by rfl, ?_⟩) ?_ ?_
              rotate_left
              · intro w'
                go_simp
                with_reducible rfl
              rotate_left
              · simp only [Act.put, List.setIfInBounds_toArray, List.set_cons_zero, List.set_cons_succ, i64_w, i32_w]
                rfl
              refine take_ (i := 18) (N := some 161) (v := ?_) (a' := ?_) #[true,true,true,true,true,true,true,true,true,true,true,true,true,true,true,true,true,true,true,false,false,false,false,false,false,false,false,false,false,false,false,false,false] rfl rfl (by kernel_rfl) (fun _ _ _ h => h) (Or.inl ⟨by rfl, ?_⟩) hHeld ?_ ?_
              rotate_left
              · intro w' hs_; obtain ⟨s0, s1, s2, s3, s4, s5, s6, s7⟩ := hs_
                go_simp
                with_reducible rfl
              rotate_left
              · simp only [Act.put, List.setIfInBounds_toArray, List.set_cons_zero, List.set_cons_succ, i64_w, i32_w]
                rfl
              refine pure_ (i := 19) (N := some 162) (v := ?_) (a' := ?_) #[true,true,true,true,true,true,true,true,true,true,true,true,true,true,true,true,true,true,true,true,false,false,false,false,false,false,false,false,false,false,false,false,false] rfl rfl (by kernel_rfl) (fun _ _ _ h => h) (Or.inl ⟨by rfl, ?_⟩) ?_ ?_
              rotate_left
              · intro w'
                go_simp
                with_reducible rfl
              rotate_left
              · simp only [Act.put, List.setIfInBounds_toArray, List.set_cons_zero, List.set_cons_succ, i64_w, i32_w]
                rfl
              refine pure_ (i := 20) (N := some 163) (v := ?_) (a' := ?_) #[true,true,true,true,true,true,true,true,true,true,true,true,true,true,true,true,true,true,true,true,true,false,false,false,false,false,false,false,false,false,false,false,false] rfl rfl (by kernel_rfl) (fun _ _ _ h => h) (Or.inl ⟨by rfl, ?_⟩) ?_ ?_
              rotate_left
              · intro w'
                go_simp
                with_reducible rfl
              rotate_left
              · simp only [Act.put, List.setIfInBounds_toArray, List.set_cons_zero, List.set_cons_succ, i64_w, i32_w]
                rfl
              rw [wrap10 hi1000]
              refine pure_ (i := 21) (N := some 164) (v := ?_) (a' := ?_) #[true,true,true,true,true,true,true,true,true,true,true,true,true,true,true,true,true,true,true,true,true,true,false,false,false,false,false,false,false,false,false,false,false] rfl rfl (by kernel_rfl) (fun _ _ _ h => h) (Or.inl ⟨by rfl, ?_⟩) ?_ ?_
              rotate_left
              · intro w'
                go_simp
                with_reducible rfl
              rotate_left
              · simp only [Act.put, List.setIfInBounds_toArray, List.set_cons_zero, List.set_cons_succ, i64_w, i32_w]
                rfl
              refine pure_ (i := 22) (N := some 165) (v := ?_) (a' := ?_) #[true,true,true,true,true,true,true,true,true,true,true,true,true,true,true,true,true,true,true,true,true,true,true,false,false,false,false,false,false,false,false,false,false] rfl rfl (by kernel_rfl) (fun _ _ _ h => h) (Or.inl ⟨by rfl, ?_⟩) ?_ ?_
              rotate_left
              · intro w'
                go_simp
                with_reducible rfl
              rotate_left
              · simp only [Act.put, List.setIfInBounds_toArray, List.set_cons_zero, List.set_cons_succ, i64_w, i32_w]
                rfl
              refine pure_ (i := 23) (N := some 166) (v := ?_) (a' := ?_) #[true,true,true,true,true,true,true,true,true,true,true,true,true,true,true,true,true,true,true,true,true,true,true,true,false,false,false,false,false,false,false,false,false] rfl rfl (by kernel_rfl) (fun _ _ _ h => h) (Or.inl ⟨by rfl, ?_⟩) ?_ ?_
              rotate_left
              · intro w'
                go_simp
                with_reducible rfl
              rotate_left
              · simp only [Act.put, List.setIfInBounds_toArray, List.set_cons_zero, List.set_cons_succ, i64_w, i32_w]
                rfl
              refine pure_ (i := 24) (N := some 167) (v := ?_) (a' := ?_) #[true,true,true,true,true,true,true,true,true,true,true,true,true,true,true,true,true,true,true,true,true,true,true,true,true,false,false,false,false,false,false,false,false] rfl rfl (by kernel_rfl) (fun _ _ _ h => h) (Or.inl ⟨by rfl, ?_⟩) ?_ ?_
              rotate_left
              · intro w'
                go_simp
                with_reducible rfl
              rotate_left
              · simp only [Act.put, List.setIfInBounds_toArray, List.set_cons_zero, List.set_cons_succ, i64_w, i32_w]
                rfl
              refine take_ (i := 25) (N := some 168) (v := ?_) (a' := ?_) #[true,true,true,true,true,true,true,true,true,true,true,true,true,true,true,true,true,true,true,true,true,true,true,true,true,true,false,false,false,false,false,false,false] rfl rfl (by kernel_rfl) (fun _ _ _ h => h) (Or.inl ⟨by rfl, ?_⟩) hHeld ?_ ?_
              rotate_left
              · intro w' hs_; obtain ⟨s0, s1, s2, s3, s4, s5, s6, s7⟩ := hs_
                go_simp
                with_reducible rfl
              rotate_left
              · simp only [Act.put, List.setIfInBounds_toArray, List.set_cons_zero, List.set_cons_succ, i64_w, i32_w]
                rfl
              refine pure_ (i := 26) (N := some 169) (v := ?_) (a' := ?_) #[true,true,true,true,true,true,true,true,true,true,true,true,true,true,true,true,true,true,true,true,true,true,true,true,true,true,true,false,false,false,false,false,false] rfl rfl (by kernel_rfl) (fun _ _ _ h => h) (Or.inl ⟨by rfl, ?_⟩) ?_ ?_
              rotate_left
              · intro w'
                go_simp
                with_reducible rfl
              rotate_left
              · simp only [Act.put, List.setIfInBounds_toArray, List.set_cons_zero, List.set_cons_succ, i64_w, i32_w]
                rfl
              refine pure_ (i := 27) (N := some 170) (v := ?_) (a' := ?_) #[true,true,true,true,true,true,true,true,true,true,true,true,true,true,true,true,true,true,true,true,true,true,true,true,true,true,true,true,false,false,false,false,false] rfl rfl (by kernel_rfl) (fun _ _ _ h => h) (Or.inl ⟨by rfl, ?_⟩) ?_ ?_
              rotate_left
              · intro w'
                go_simp
                with_reducible rfl
              rotate_left
              · simp only [Act.put, List.setIfInBounds_toArray, List.set_cons_zero, List.set_cons_succ, i64_w, i32_w]
                rfl
              refine pure_ (i := 28) (N := some 171) (v := ?_) (a' := ?_) #[true,true,true,true,true,true,true,true,true,true,true,true,true,true,true,true,true,true,true,true,true,true,true,true,true,true,true,true,true,false,false,false,false] rfl rfl (by kernel_rfl) (fun _ _ _ h => h) (Or.inl ⟨by rfl, ?_⟩) ?_ ?_
              rotate_left
              · intro w'
                go_simp
                with_reducible rfl
              rotate_left
              · simp only [Act.put, List.setIfInBounds_toArray, List.set_cons_zero, List.set_cons_succ, i64_w, i32_w]
                rfl
              refine take_ (i := 29) (N := some 172) (v := ?_) (a' := ?_) #[true,true,true,true,true,true,true,true,true,true,true,true,true,true,true,true,true,true,true,true,true,true,true,true,true,true,true,true,true,true,false,false,false] rfl rfl (by kernel_rfl) (fun _ _ _ h => h) (Or.inl ⟨by rfl, ?_⟩) hHeld ?_ ?_
              rotate_left
              · intro w' hs_; obtain ⟨s0, s1, s2, s3, s4, s5, s6, s7⟩ := hs_
                go_simp
                with_reducible rfl
              rotate_left
              · simp only [Act.put, List.setIfInBounds_toArray, List.set_cons_zero, List.set_cons_succ, i64_w, i32_w]
                rfl
              refine pure_ (i := 30) (N := some 173) (v := ?_) (a' := ?_) #[true,true,true,true,true,true,true,true,true,true,true,true,true,true,true,true,true,true,true,true,true,true,true,true,true,true,true,true,true,true,true,false,false] rfl rfl (by kernel_rfl) (fun _ _ _ h => h) (Or.inl ⟨by rfl, ?_⟩) ?_ ?_
              rotate_left
              · intro w'
                go_simp
                with_reducible rfl
              rotate_left
              · simp only [Act.put, List.setIfInBounds_toArray, List.set_cons_zero, List.set_cons_succ, i64_w, i32_w]
                rfl
              refine pure_ (i := 31) (N := some 174) (v := ?_) (a' := ?_) #[true,true,true,true,true,true,true,true,true,true,true,true,true,true,true,true,true,true,true,true,true,true,true,true,true,true,true,true,true,true,true,true,false] rfl rfl (by kernel_rfl) (fun _ _ _ h => h) (Or.inl ⟨by rfl, ?_⟩) ?_ ?_
              rotate_left
              · intro w'
                go_simp
                with_reducible rfl
              rotate_left
              · simp only [Act.put, List.setIfInBounds_toArray, List.set_cons_zero, List.set_cons_succ, i64_w, i32_w]
                rfl
              refine pure_ (i := 32) (N := some 175) (v := ?_) (a' := ?_) #[true,true,true,true,true,true,true,true,true,true,true,true,true,true,true,true,true,true,true,true,true,true,true,true,true,true,true,true,true,true,true,true,true] rfl rfl (by kernel_rfl) (fun _ _ _ h => h) (Or.inl ⟨by rfl, ?_⟩) ?_ ?_
              rotate_left
              · intro w'
                go_simp
                with_reducible rfl
              rotate_left
              · simp only [Act.put, List.setIfInBounds_toArray, List.set_cons_zero, List.set_cons_succ, i64_w, i32_w]
                rfl
              refine done_ (by kernel_rfl) ?_
              have hbl2 := hbl.trans (k6.mono hzl)
              clear keep0
              go_wp2_with fail
              go_roundw
              case rel => exact ⟨i + 1, by omega, by go_num, hbl2⟩
              case measure => simp [intOf]; omega
            · obtain rfl : i = W := by omega
              have hiWI : ¬ (i : Int) < 1 + (k : Int) - 1 := by have := unhide hWI; omega
              have hbF := hb12w.trans (hbl.mono hb12w.size)
              go_wp2_with fail
              go_ret
              exact ⟨rfl, hbF⟩
          -- }LOOPA
        | false =>
          have hWt : W = k - 1 := by rw [unhide hW]; rfl
          replace hW := hide hW
          replace hWt := hide hWt
          have hstn : (!((st == 2) == ((1 : Int) + (k : Int) == 2 + (N' : Int)))) = false := by rw [hNB, hstB]; cases fl <;> rfl
          clear hNB hstB
          by_cases hk00 : k = 0
          · have hlt : (1 : Int) + (k : Int) - 2 < 0 := by omega
            have hlen : ((W : Int) != 0) = false := by have := unhide hWt; exact bne_eq_false_iff_eq.2 (by omega)
            replace hk00 := hide hk00
            go_wp2_with fail
            rw [← unhide hW12, ← unhide hP22]
            clear d30 d31 hP3n hP3z hW12 hkq hlen hstn hlt
            have hWI : (W : Int) = 0 := by have := unhide hWt; have := unhide hk00; omega
            replace hWI := hide hWI
            -- LOOPB{
            go_loopw [24] (fun s24 wl => ∃ (i : Nat), i ≤ W ∧ s24 = .int .i64 i ∧ Below W12.heap.size W12 wl) (fun s24 _ => W - (intOf s24).toNat)
            case atStart => exact ⟨0, Nat.zero_le _, rfl, Below.refl _ _⟩
            case round =>
              rename World => wl
              obtain ⟨i, hi, rfl, hbl⟩ := hrel
              have hzl := hbl.size
              by_cases hiW : i < W
              · have hiWI : (i : Int) < 0 := by have := unhide hWI; omega
                have hiWN : (i : Int) < W := by omega
                have hikN : (i : Int) < Kn := by have := unhide hKk; omega
                have hi0 : (0 : Int) ≤ i := by omega
                have hi1000 : i ≤ 1000 := by omega
                have hiT5 : i < T5.length := by rw [unhide hl5]; exact hiW
                have hiT4 : i < T4.length := by rw [unhide hl4]; have := unhide hKk; omega
                obtain ⟨b1, o1, rfl, _, hb1l, hr1⟩ := hs5.at_ (k := i) (by rw [List.length_map]; exact hiT5)
                obtain ⟨b2, o2, rfl, _, hb2l, hr2⟩ := hs4r.at_ (k := i) (by rw [List.length_map]; exact hiT4)
                simp only [List.getElem_map] at hr1 hr2
                have hp1 : T5[i].pl = (10 + (i : Int), (i : Int), (wrote es (4 + q) (2 + N') i).2) := by
                  have : (T5.map RowD.pl)[i]? = some (10 + (i : Int), (i : Int), (wrote es (4 + q) (2 + N') i).2) := by
                    rw [unhide hT5]; simp [List.getElem?_map, List.getElem?_range hiW, wrote]
                  rw [List.getElem?_map, List.getElem?_eq_getElem (by assumption)] at this
                  simpa using this
                have hp2 : T4[i].pl = (10 + (i : Int), (i : Int), (wrote es (4 + q) (2 + N') i).2) := by
                  have : (T4.map RowD.pl)[i]? = some (10 + (i : Int), (i : Int), (wrote es (4 + q) (2 + N') i).2) := by
                    rw [unhide hT4']; simp [List.getElem?_map, List.getElem?_range (show i < k by omega), wrote]
                  rw [List.getElem?_map, List.getElem?_eq_getElem (by assumption)] at this
                  simpa using this
                have k1 := ho5 _ (List.getElem_mem hiT5)
                have k2 := ho4 _ (List.getElem_mem hiT4)
                generalize T5[i] = t1 at hr1 hp1 k1
                generalize T4[i] = t2 at hr2 hp2 k2
                obtain ⟨s1', t1', A13, c13, e13⟩ := t1
                obtain ⟨s2', t2', A14, c14, e14⟩ := t2
                simp only [RowD.pl, Prod.mk.injEq] at hp1 hp2
                obtain ⟨rfl, rfl, he13⟩ := hp1
                obtain ⟨rfl, rfl, he14⟩ := hp2
                obtain rfl : e13 = e14 := he13.trans he14.symm
                obtain ⟨kk, hkk⟩ : ∃ kk, kk = e13.length := ⟨_, rfl⟩
                have hsr := samerow_any (10 + (i : Int)) i (10 + (i : Int)) i A13 A14 c13 c14 kk kk e13 e13 wl.drew hkk hkk (by rw [hkk]; exact k1.2.1) ((k1.2.2.2.below hbl).more hzl).drew ((k2.2.2.2.below hbl).more hzl).drew
                rw [show sameB (10 + (i : Int)) i (10 + (i : Int)) i e13 e13 = true from decide_eq_true ⟨rfl, rfl, rfl⟩] at hsr
                have qa := fun j hj => (hbl.cell (p := ⟨b1, o1 + i * 3 + j, none⟩) hb1l).trans (rd_cell hr1 j hj)
                have ra := fun j hj => (hbl.cell (p := ⟨b2, o2 + i * 3 + j, none⟩) hb2l).trans (rd_cell hr2 j hj)
                have p1 := (hbl.cell (World.block_lt_of_cell? _ _ u22)).trans u22
                have p2 := (hbl.cell (World.block_lt_of_cell? _ _ u3)).trans u3
                have keep0 : ∀ w', Below wl.heap.size wl w' → w'.cell? ⟨P22, 1, none⟩ = some (.slice (some ⟨b1, o1, none⟩) W c11) ∧ w'.cell? ⟨P3, 1, none⟩ = some (.slice (some ⟨b2, o2, none⟩) Kn c3) ∧ w'.cell? ⟨b1, o1 + i * 3, none⟩ = some (.int .i64 (10 + (i : Int))) ∧ w'.cell? ⟨b1, o1 + i * 3 + 1, none⟩ = some (.int .i64 i) ∧ w'.cell? ⟨b1, o1 + i * 3 + 2, none⟩ = some (.slice A13 kk c13) ∧ w'.cell? ⟨b2, o2 + i * 3, none⟩ = some (.int .i64 (10 + (i : Int))) ∧ w'.cell? ⟨b2, o2 + i * 3 + 1, none⟩ = some (.int .i64 i) ∧ w'.cell? ⟨b2, o2 + i * 3 + 2, none⟩ = some (.slice A14 kk c14) := by
                  intro w' hb'
                  have hx := fun (p : Addr) (v : Value) (h : wl.cell? p = some v) => (hb'.cell (World.block_lt_of_cell? _ _ h)).trans h
                  refine ⟨hx _ _ p1, hx _ _ p2, hx _ _ ?_, hx _ _ ?_, hx _ _ ?_, hx _ _ ?_, hx _ _ ?_, hx _ _ ?_⟩
                  · exact qa 0 (by omega)
                  · exact qa 1 (by omega)
                  · rw [hkk]; exact qa 2 (by omega)
                  · exact ra 0 (by omega)
                  · exact ra 1 (by omega)
                  · rw [hkk]; exact ra 2 (by omega)
                clear qa ra hr1 hr2 k1 k2 he13 he14
                replace hkk := hide hkk
                replace hsr := hide hsr
                go_wp2_with fail
                refine start_ (n := 33) (S := fun w' => w'.cell? ⟨P22, 1, none⟩ = some (.slice (some ⟨b1, o1, none⟩) W c11) ∧ w'.cell? ⟨P3, 1, none⟩ = some (.slice (some ⟨b2, o2, none⟩) Kn c3) ∧ w'.cell? ⟨b1, o1 + i * 3, none⟩ = some (.int .i64 (10 + (i : Int))) ∧ w'.cell? ⟨b1, o1 + i * 3 + 1, none⟩ = some (.int .i64 i) ∧ w'.cell? ⟨b1, o1 + i * 3 + 2, none⟩ = some (.slice A13 kk c13) ∧ w'.cell? ⟨b2, o2 + i * 3, none⟩ = some (.int .i64 (10 + (i : Int))) ∧ w'.cell? ⟨b2, o2 + i * 3 + 1, none⟩ = some (.int .i64 i) ∧ w'.cell? ⟨b2, o2 + i * 3 + 2, none⟩ = some (.slice A14 kk c14)) (ds := []) #[false,false,false,false,false,false,false,false,false,false,false,false,false,false,false,false,false,false,false,false,false,false,false,false,false,false,false,false,false,false,false,false,false] (by kernel_rfl) rfl rfl (keep0 _ (Below.refl _ _).drew) (fun hHeld => ?_)
                refine pure_ (i := 0) (N := some 143) (v := ?_) (a' := ?_) #[true,false,false,false,false,false,false,false,false,false,false,false,false,false,false,false,false,false,false,false,false,false,false,false,false,false,false,false,false,false,false,false,false] rfl rfl (by kernel_rfl) (fun _ _ _ h => h) (Or.inl ⟨by rfl, ?_⟩) ?_ ?_
                rotate_left
                · intro w'
                  go_simp
                  with_reducible rfl
                rotate_left
                · simp only [Act.put, List.setIfInBounds_toArray, List.set_cons_zero, List.set_cons_succ, i64_w, i32_w]
                  rfl
                refine take_ (i := 1) (N := some 144) (v := ?_) (a' := ?_) #[true,true,false,false,false,false,false,false,false,false,false,false,false,false,false,false,false,false,false,false,false,false,false,false,false,false,false,false,false,false,false,false,false] rfl rfl (by kernel_rfl) (fun _ _ _ h => h) (Or.inl ⟨by rfl, ?_⟩) hHeld ?_ ?_
                rotate_left
                · intro w' hs_; obtain ⟨s0, s1, s2, s3, s4, s5, s6, s7⟩ := hs_
                  go_simp
                  with_reducible rfl
                rotate_left
                · simp only [Act.put, List.setIfInBounds_toArray, List.set_cons_zero, List.set_cons_succ, i64_w, i32_w]
                  rfl
                refine pure_ (i := 2) (N := some 145) (v := ?_) (a' := ?_) #[true,true,true,false,false,false,false,false,false,false,false,false,false,false,false,false,false,false,false,false,false,false,false,false,false,false,false,false,false,false,false,false,false] rfl rfl (by kernel_rfl) (fun _ _ _ h => h) (Or.inl ⟨by rfl, ?_⟩) ?_ ?_
                rotate_left
                · intro w'
                  go_simp
                  with_reducible rfl
                rotate_left
                · simp only [Act.put, List.setIfInBounds_toArray, List.set_cons_zero, List.set_cons_succ, i64_w, i32_w]
                  rfl
                refine pure_ (i := 3) (N := some 146) (v := ?_) (a' := ?_) #[true,true,true,true,false,false,false,false,false,false,false,false,false,false,false,false,false,false,false,false,false,false,false,false,false,false,false,false,false,false,false,false,false] rfl rfl (by kernel_rfl) (fun _ _ _ h => h) (Or.inl ⟨by rfl, ?_⟩) ?_ ?_
                rotate_left
                · intro w'
                  go_simp
                  with_reducible rfl
                rotate_left
                · simp only [Act.put, List.setIfInBounds_toArray, List.set_cons_zero, List.set_cons_succ, i64_w, i32_w]
                  rfl
                refine take_ (i := 4) (N := some 147) (v := ?_) (a' := ?_) #[true,true,true,true,true,false,false,false,false,false,false,false,false,false,false,false,false,false,false,false,false,false,false,false,false,false,false,false,false,false,false,false,false] rfl rfl (by kernel_rfl) (fun _ _ _ h => h) (Or.inl ⟨by rfl, ?_⟩) hHeld ?_ ?_
                rotate_left
                · intro w' hs_; obtain ⟨s0, s1, s2, s3, s4, s5, s6, s7⟩ := hs_
                  go_simp
                  with_reducible rfl
                rotate_left
                · simp only [Act.put, List.setIfInBounds_toArray, List.set_cons_zero, List.set_cons_succ, i64_w, i32_w]
                  rfl
                refine pure_ (i := 5) (N := some 148) (v := ?_) (a' := ?_) #[true,true,true,true,true,true,false,false,false,false,false,false,false,false,false,false,false,false,false,false,false,false,false,false,false,false,false,false,false,false,false,false,false] rfl rfl (by kernel_rfl) (fun _ _ _ h => h) (Or.inl ⟨by rfl, ?_⟩) ?_ ?_
                rotate_left
                · intro w'
                  go_simp
                  with_reducible rfl
                rotate_left
                · simp only [Act.put, List.setIfInBounds_toArray, List.set_cons_zero, List.set_cons_succ, i64_w, i32_w]
                  rfl
                refine take_ (i := 6) (N := some 149) (v := ?_) (a' := ?_) #[true,true,true,true,true,true,true,false,false,false,false,false,false,false,false,false,false,false,false,false,false,false,false,false,false,false,false,false,false,false,false,false,false] rfl rfl (by kernel_rfl) (fun _ _ _ h => h) (Or.inl ⟨by rfl, ?_⟩) hHeld ?_ ?_
                rotate_left
                · intro w' hs_; obtain ⟨s0, s1, s2, s3, s4, s5, s6, s7⟩ := hs_
                  go_simp
                  with_reducible rfl
                rotate_left
                · simp only [Act.put, List.setIfInBounds_toArray, List.set_cons_zero, List.set_cons_succ, i64_w, i32_w]
                  rfl
                refine pure_ (i := 7) (N := some 150) (v := ?_) (a' := ?_) #[true,true,true,true,true,true,true,true,false,false,false,false,false,false,false,false,false,false,false,false,false,false,false,false,false,false,false,false,false,false,false,false,false] rfl rfl (by kernel_rfl) (fun _ _ _ h => h) (Or.inl ⟨by rfl, ?_⟩) ?_ ?_
                rotate_left
                · intro w'
                  go_simp
                  with_reducible rfl
                rotate_left
                · simp only [Act.put, List.setIfInBounds_toArray, List.set_cons_zero, List.set_cons_succ, i64_w, i32_w]
                  rfl
                refine pure_ (i := 8) (N := some 151) (v := ?_) (a' := ?_) #[true,true,true,true,true,true,true,true,true,false,false,false,false,false,false,false,false,false,false,false,false,false,false,false,false,false,false,false,false,false,false,false,false] rfl rfl (by kernel_rfl) (fun _ _ _ h => h) (Or.inl ⟨by rfl, ?_⟩) ?_ ?_
                rotate_left
                · intro w'
                  go_simp
                  with_reducible rfl
                rotate_left
                · simp only [Act.put, List.setIfInBounds_toArray, List.set_cons_zero, List.set_cons_succ, i64_w, i32_w]
                  rfl
                refine take_ (i := 9) (N := some 152) (v := ?_) (a' := ?_) #[true,true,true,true,true,true,true,true,true,true,false,false,false,false,false,false,false,false,false,false,false,false,false,false,false,false,false,false,false,false,false,false,false] rfl rfl (by kernel_rfl) (fun _ _ _ h => h) (Or.inl ⟨by rfl, ?_⟩) hHeld ?_ ?_
                rotate_left
                · intro w' hs_; obtain ⟨s0, s1, s2, s3, s4, s5, s6, s7⟩ := hs_
                  go_simp
                  with_reducible rfl
                rotate_left
                · simp only [Act.put, List.setIfInBounds_toArray, List.set_cons_zero, List.set_cons_succ, i64_w, i32_w]
                  rfl
                refine one_ (i := 10) (N := some 153) #[true,true,true,true,true,true,true,true,true,true,true,false,false,false,false,false,false,false,false,false,false,false,false,false,false,false,false,false,false,false,false,false,false] rfl rfl (by kernel_rfl) (by decide) (fun K hK => ?_)
                refine goes_ Try.func14 (by kernel_rfl) rfl #[.agg #[.int .i64 (10 + (i : Int)), .int .i64 i, .slice A13 kk c13], .agg #[.int .i64 (10 + (i : Int)), .int .i64 i, .slice A14 kk c14]] (by rfl) rfl rfl (by (try simp only [List.map_toArray, List.map_cons, List.map_nil]); first | done | rfl) ?_
                with_reducible refine (unhide hsr).mono ?_
                rintro e w6 ⟨rfl, hb6⟩
                have k6 : Below wl.heap.size wl w6 := Below.trans (Below.drew (Below.refl wl.heap.size wl)) hb6
                refine ⟨_, rfl, hK.out _ _ (keep0 _ k6) (fun hHeld => ?_)⟩
                clear hK K
                refine norm_ (a' := ?_) ?_ ?_
                rotate_left
                · show Act.put _ (some 153) _ = _
                  simp only [Act.put, List.setIfInBounds_toArray, List.set_cons_zero, List.set_cons_succ, i64_w, i32_w]
                  rfl
                refine pure_ (i := 11) (N := some 154) (v := ?_) (a' := ?_) #[true,true,true,true,true,true,true,true,true,true,true,true,false,false,false,false,false,false,false,false,false,false,false,false,false,false,false,false,false,false,false,false,false] rfl rfl (by kernel_rfl) (fun _ _ _ h => h) (Or.inl ⟨by rfl, ?_⟩) ?_ ?_
                rotate_left
                · intro w'
                  go_simp
                  with_reducible rfl
                rotate_left
                · simp only [Act.put, List.setIfInBounds_toArray, List.set_cons_zero, List.set_cons_succ, i64_w, i32_w]
                  rfl
                refine pure_ (i := 12) (N := some 155) (v := ?_) (a' := ?_) #[true,true,true,true,true,true,true,true,true,true,true,true,true,false,false,false,false,false,false,false,false,false,false,false,false,false,false,false,false,false,false,false,false] rfl rfl (by kernel_rfl) (fun _ _ _ h => h) (Or.inl ⟨by rfl, ?_⟩) ?_ ?_
                rotate_left
                · intro w'
                  go_simp
                  with_reducible rfl
                rotate_left
                · simp only [Act.put, List.setIfInBounds_toArray, List.set_cons_zero, List.set_cons_succ, i64_w, i32_w]
                  rfl
                refine pure_ (i := 13) (N := some 156) (v := ?_) (a' := ?_) #[true,true,true,true,true,true,true,true,true,true,true,true,true,true,false,false,false,false,false,false,false,false,false,false,false,false,false,false,false,false,false,false,false] rfl rfl (by kernel_rfl) (fun _ _ _ h => h) (Or.inl ⟨by rfl, ?_⟩) ?_ ?_
                rotate_left
                · intro w'
                  go_simp
                  with_reducible rfl
                rotate_left
                · simp only [Act.put, List.setIfInBounds_toArray, List.set_cons_zero, List.set_cons_succ, i64_w, i32_w]
                  rfl
                refine take_ (i := 14) (N := some 157) (v := ?_) (a' := ?_) #[true,true,true,true,true,true,true,true,true,true,true,true,true,true,true,false,false,false,false,false,false,false,false,false,false,false,false,false,false,false,false,false,false] rfl rfl (by kernel_rfl) (fun _ _ _ h => h) (Or.inl ⟨by rfl, ?_⟩) hHeld ?_ ?_
                rotate_left
                · intro w' hs_; obtain ⟨s0, s1, s2, s3, s4, s5, s6, s7⟩ := hs_
                  go_simp
                  with_reducible rfl
                rotate_left
                · simp only [Act.put, List.setIfInBounds_toArray, List.set_cons_zero, List.set_cons_succ, i64_w, i32_w]
                  rfl
                refine pure_ (i := 15) (N := some 158) (v := ?_) (a' := ?_) #[true,true,true,true,true,true,true,true,true,true,true,true,true,true,true,true,false,false,false,false,false,false,false,false,false,false,false,false,false,false,false,false,false] rfl rfl (by kernel_rfl) (fun _ _ _ h => h) (Or.inl ⟨by rfl, ?_⟩) ?_ ?_
                rotate_left
                · intro w'
                  go_simp
                  with_reducible rfl
                rotate_left
                · simp only [Act.put, List.setIfInBounds_toArray, List.set_cons_zero, List.set_cons_succ, i64_w, i32_w]
                  rfl
                refine pure_ (i := 16) (N := some 159) (v := ?_) (a' := ?_) #[true,true,true,true,true,true,true,true,true,true,true,true,true,true,true,true,true,false,false,false,false,false,false,false,false,false,false,false,false,false,false,false,false] rfl rfl (by kernel_rfl) (fun _ _ _ h => h) (Or.inl ⟨by rfl, ?_⟩) ?_ ?_
                rotate_left
                · intro w'
                  go_simp
                  with_reducible rfl
                rotate_left
                · simp only [Act.put, List.setIfInBounds_toArray, List.set_cons_zero, List.set_cons_succ, i64_w, i32_w]
                  rfl
                refine pure_ (i := 17) (N := some 160) (v := ?_) (a' := ?_) #[true,true,true,true,true,true,true,true,true,true,true,true,true,true,true,true,true,true,false,false,false,false,false,false,false,false,false,false,false,false,false,false,false] rfl rfl (by kernel_rfl) (fun _ _ _ h => h) (Or.inl ⟨by rfl, ?_⟩) ?_ ?_
                rotate_left
                · intro w'
                  go_simp
                  with_reducible rfl
                rotate_left
                · simp only [Act.put, List.setIfInBounds_toArray, List.set_cons_zero, List.set_cons_succ, i64_w, i32_w]
                  rfl
                refine take_ (i := 18) (N := some 161) (v := ?_) (a' := ?_) #[true,true,true,true,true,true,true,true,true,true,true,true,true,true,true,true,true,true,true,false,false,false,false,false,false,false,false,false,false,false,false,false,false] rfl rfl (by kernel_rfl) (fun _ _ _ h => h) (Or.inl ⟨by rfl, ?_⟩) hHeld ?_ ?_
                rotate_left
                · intro w' hs_; obtain ⟨s0, s1, s2, s3, s4, s5, s6, s7⟩ := hs_
                  go_simp
                  with_reducible rfl
                rotate_left
                · simp only [Act.put, List.setIfInBounds_toArray, List.set_cons_zero, List.set_cons_succ, i64_w, i32_w]
                  rfl
                refine pure_ (i := 19) (N := some 162) (v := ?_) (a' := ?_) #[true,true,true,true,true,true,true,true,true,true,true,true,true,true,true,true,true,true,true,true,false,false,false,false,false,false,false,false,false,false,false,false,false] rfl rfl (by kernel_rfl) (fun _ _ _ h => h) (Or.inl ⟨by rfl, ?_⟩) ?_ ?_
                rotate_left
                · intro w'
                  go_simp
                  with_reducible rfl
                rotate_left
                · simp only [Act.put, List.setIfInBounds_toArray, List.set_cons_zero, List.set_cons_succ, i64_w, i32_w]
                  rfl
                refine pure_ (i := 20) (N := some 163) (v := ?_) (a' := ?_) #[true,true,true,true,true,true,true,true,true,true,true,true,true,true,true,true,true,true,true,true,true,false,false,false,false,false,false,false,false,false,false,false,false] rfl rfl (by kernel_rfl) (fun _ _ _ h => h) (Or.inl ⟨by rfl, ?_⟩) ?_ ?_
                rotate_left
                · intro w'
                  go_simp
                  with_reducible rfl
                rotate_left
                · simp only [Act.put, List.setIfInBounds_toArray, List.set_cons_zero, List.set_cons_succ, i64_w, i32_w]
                  rfl
                rw [wrap10 hi1000]
                refine pure_ (i := 21) (N := some 164) (v := ?_) (a' := ?_) #[true,true,true,true,true,true,true,true,true,true,true,true,true,true,true,true,true,true,true,true,true,true,false,false,false,false,false,false,false,false,false,false,false] rfl rfl (by kernel_rfl) (fun _ _ _ h => h) (Or.inl ⟨by rfl, ?_⟩) ?_ ?_
                rotate_left
                · intro w'
                  go_simp
                  with_reducible rfl
                rotate_left
                · simp only [Act.put, List.setIfInBounds_toArray, List.set_cons_zero, List.set_cons_succ, i64_w, i32_w]
                  rfl
                refine pure_ (i := 22) (N := some 165) (v := ?_) (a' := ?_) #[true,true,true,true,true,true,true,true,true,true,true,true,true,true,true,true,true,true,true,true,true,true,true,false,false,false,false,false,false,false,false,false,false] rfl rfl (by kernel_rfl) (fun _ _ _ h => h) (Or.inl ⟨by rfl, ?_⟩) ?_ ?_
                rotate_left
                · intro w'
                  go_simp
                  with_reducible rfl
                rotate_left
                · simp only [Act.put, List.setIfInBounds_toArray, List.set_cons_zero, List.set_cons_succ, i64_w, i32_w]
                  rfl
                refine pure_ (i := 23) (N := some 166) (v := ?_) (a' := ?_) #[true,true,true,true,true,true,true,true,true,true,true,true,true,true,true,true,true,true,true,true,true,true,true,true,false,false,false,false,false,false,false,false,false] rfl rfl (by kernel_rfl) (fun _ _ _ h => h) (Or.inl ⟨by rfl, ?_⟩) ?_ ?_
                rotate_left
                · intro w'
                  go_simp
                  with_reducible rfl
                rotate_left
                · simp only [Act.put, List.setIfInBounds_toArray, List.set_cons_zero, List.set_cons_succ, i64_w, i32_w]
                  rfl
                refine pure_ (i := 24) (N := some 167) (v := ?_) (a' := ?_) #[true,true,true,true,true,true,true,true,true,true,true,true,true,true,true,true,true,true,true,true,true,true,true,true,true,false,false,false,false,false,false,false,false] rfl rfl (by kernel_rfl) (fun _ _ _ h => h) (Or.inl ⟨by rfl, ?_⟩) ?_ ?_
                rotate_left
                · intro w'
                  go_simp
                  with_reducible rfl
                rotate_left
                · simp only [Act.put, List.setIfInBounds_toArray, List.set_cons_zero, List.set_cons_succ, i64_w, i32_w]
                  rfl
                refine take_ (i := 25) (N := some 168) (v := ?_) (a' := ?_) #[true,true,true,true,true,true,true,true,true,true,true,true,true,true,true,true,true,true,true,true,true,true,true,true,true,true,false,false,false,false,false,false,false] rfl rfl (by kernel_rfl) (fun _ _ _ h => h) (Or.inl ⟨by rfl, ?_⟩) hHeld ?_ ?_
                rotate_left
                · intro w' hs_; obtain ⟨s0, s1, s2, s3, s4, s5, s6, s7⟩ := hs_
                  go_simp
                  with_reducible rfl
                rotate_left
                · simp only [Act.put, List.setIfInBounds_toArray, List.set_cons_zero, List.set_cons_succ, i64_w, i32_w]
                  rfl
                refine pure_ (i := 26) (N := some 169) (v := ?_) (a' := ?_) #[true,true,true,true,true,true,true,true,true,true,true,true,true,true,true,true,true,true,true,true,true,true,true,true,true,true,true,false,false,false,false,false,false] rfl rfl (by kernel_rfl) (fun _ _ _ h => h) (Or.inl ⟨by rfl, ?_⟩) ?_ ?_
                rotate_left
                · intro w'
                  go_simp
                  with_reducible rfl
                rotate_left
                · simp only [Act.put, List.setIfInBounds_toArray, List.set_cons_zero, List.set_cons_succ, i64_w, i32_w]
                  rfl
                refine pure_ (i := 27) (N := some 170) (v := ?_) (a' := ?_) #[true,true,true,true,true,true,true,true,true,true,true,true,true,true,true,true,true,true,true,true,true,true,true,true,true,true,true,true,false,false,false,false,false] rfl rfl (by kernel_rfl) (fun _ _ _ h => h) (Or.inl ⟨by rfl, ?_⟩) ?_ ?_
                rotate_left
                · intro w'
                  go_simp
                  with_reducible rfl
                rotate_left
                · simp only [Act.put, List.setIfInBounds_toArray, List.set_cons_zero, List.set_cons_succ, i64_w, i32_w]
                  rfl
                refine pure_ (i := 28) (N := some 171) (v := ?_) (a' := ?_) #[true,true,true,true,true,true,true,true,true,true,true,true,true,true,true,true,true,true,true,true,true,true,true,true,true,true,true,true,true,false,false,false,false] rfl rfl (by kernel_rfl) (fun _ _ _ h => h) (Or.inl ⟨by rfl, ?_⟩) ?_ ?_
                rotate_left
                · intro w'
                  go_simp
                  with_reducible rfl
                rotate_left
                · simp only [Act.put, List.setIfInBounds_toArray, List.set_cons_zero, List.set_cons_succ, i64_w, i32_w]
                  rfl
                refine take_ (i := 29) (N := some 172) (v := ?_) (a' := ?_) #[true,true,true,true,true,true,true,true,true,true,true,true,true,true,true,true,true,true,true,true,true,true,true,true,true,true,true,true,true,true,false,false,false] rfl rfl (by kernel_rfl) (fun _ _ _ h => h) (Or.inl ⟨by rfl, ?_⟩) hHeld ?_ ?_
                rotate_left
                · intro w' hs_; obtain ⟨s0, s1, s2, s3, s4, s5, s6, s7⟩ := hs_
                  go_simp
                  with_reducible rfl
                rotate_left
                · simp only [Act.put, List.setIfInBounds_toArray, List.set_cons_zero, List.set_cons_succ, i64_w, i32_w]
                  rfl
                refine pure_ (i := 30) (N := some 173) (v := ?_) (a' := ?_) #[true,true,true,true,true,true,true,true,true,true,true,true,true,true,true,true,true,true,true,true,true,true,true,true,true,true,true,true,true,true,true,false,false] rfl rfl (by kernel_rfl) (fun _ _ _ h => h) (Or.inl ⟨by rfl, ?_⟩) ?_ ?_
                rotate_left
                · intro w'
                  go_simp
                  with_reducible rfl
                rotate_left
                · simp only [Act.put, List.setIfInBounds_toArray, List.set_cons_zero, List.set_cons_succ, i64_w, i32_w]
                  rfl
                refine pure_ (i := 31) (N := some 174) (v := ?_) (a' := ?_) #[true,true,true,true,true,true,true,true,true,true,true,true,true,true,true,true,true,true,true,true,true,true,true,true,true,true,true,true,true,true,true,true,false] rfl rfl (by kernel_rfl) (fun _ _ _ h => h) (Or.inl ⟨by rfl, ?_⟩) ?_ ?_
                rotate_left
                · intro w'
                  go_simp
                  with_reducible rfl
                rotate_left
                · simp only [Act.put, List.setIfInBounds_toArray, List.set_cons_zero, List.set_cons_succ, i64_w, i32_w]
                  rfl
                refine pure_ (i := 32) (N := some 175) (v := ?_) (a' := ?_) #[true,true,true,true,true,true,true,true,true,true,true,true,true,true,true,true,true,true,true,true,true,true,true,true,true,true,true,true,true,true,true,true,true] rfl rfl (by kernel_rfl) (fun _ _ _ h => h) (Or.inl ⟨by rfl, ?_⟩) ?_ ?_
                rotate_left
                · intro w'
                  go_simp
                  with_reducible rfl
                rotate_left
                · simp only [Act.put, List.setIfInBounds_toArray, List.set_cons_zero, List.set_cons_succ, i64_w, i32_w]
                  rfl
                refine done_ (by kernel_rfl) ?_
                have hbl2 := hbl.trans (k6.mono hzl)
                clear keep0
                go_wp2_with fail
                go_roundw
                case rel => exact ⟨i + 1, by omega, by go_num, hbl2⟩
                case measure => simp [intOf]; omega
              · obtain rfl : i = W := by omega
                have hiWI : ¬ (i : Int) < 0 := by have := unhide hWI; omega
                have hbF := hb12w.trans (hbl.mono hb12w.size)
                go_wp2_with fail
                go_ret
                exact ⟨rfl, hbF⟩
            -- }LOOPB
          · have hlt : ¬ (1 : Int) + (k : Int) - 2 < 0 := by omega
            have hlen : ((W : Int) != 1 + (k : Int) - 2) = false := by have := unhide hWt; exact bne_eq_false_iff_eq.2 (by omega)
            replace hk00 := hide hk00
            go_wp2_with fail
            rw [← unhide hW12, ← unhide hP22]
            clear d30 d31 hP3n hP3z hW12 hkq hlen hstn hlt
            have hWI : (W : Int) = 1 + (k : Int) - 2 := by have := unhide hWt; have := unhide hk00; omega
            replace hWI := hide hWI
            -- LOOPC{
            go_loopw [24] (fun s24 wl => ∃ (i : Nat), i ≤ W ∧ s24 = .int .i64 i ∧ Below W12.heap.size W12 wl) (fun s24 _ => W - (intOf s24).toNat)
            case atStart => exact ⟨0, Nat.zero_le _, rfl, Below.refl _ _⟩
            case round =>
              rename World => wl
              obtain ⟨i, hi, rfl, hbl⟩ := hrel
              have hzl := hbl.size
              by_cases hiW : i < W
              · have hiWI : (i : Int) < 1 + (k : Int) - 2 := by have := unhide hWI; omega
                have hiWN : (i : Int) < W := by omega
                have hikN : (i : Int) < Kn := by have := unhide hKk; omega
                have hi0 : (0 : Int) ≤ i := by omega
                have hi1000 : i ≤ 1000 := by omega
                have hiT5 : i < T5.length := by rw [unhide hl5]; exact hiW
                have hiT4 : i < T4.length := by rw [unhide hl4]; have := unhide hKk; omega
                obtain ⟨b1, o1, rfl, _, hb1l, hr1⟩ := hs5.at_ (k := i) (by rw [List.length_map]; exact hiT5)
                obtain ⟨b2, o2, rfl, _, hb2l, hr2⟩ := hs4r.at_ (k := i) (by rw [List.length_map]; exact hiT4)
                simp only [List.getElem_map] at hr1 hr2
                have hp1 : T5[i].pl = (10 + (i : Int), (i : Int), (wrote es (4 + q) (2 + N') i).2) := by
                  have : (T5.map RowD.pl)[i]? = some (10 + (i : Int), (i : Int), (wrote es (4 + q) (2 + N') i).2) := by
                    rw [unhide hT5]; simp [List.getElem?_map, List.getElem?_range hiW, wrote]
                  rw [List.getElem?_map, List.getElem?_eq_getElem (by assumption)] at this
                  simpa using this
                have hp2 : T4[i].pl = (10 + (i : Int), (i : Int), (wrote es (4 + q) (2 + N') i).2) := by
                  have : (T4.map RowD.pl)[i]? = some (10 + (i : Int), (i : Int), (wrote es (4 + q) (2 + N') i).2) := by
                    rw [unhide hT4']; simp [List.getElem?_map, List.getElem?_range (show i < k by omega), wrote]
                  rw [List.getElem?_map, List.getElem?_eq_getElem (by assumption)] at this
                  simpa using this
                have k1 := ho5 _ (List.getElem_mem hiT5)
                have k2 := ho4 _ (List.getElem_mem hiT4)
                generalize T5[i] = t1 at hr1 hp1 k1
                generalize T4[i] = t2 at hr2 hp2 k2
                obtain ⟨s1', t1', A13, c13, e13⟩ := t1
                obtain ⟨s2', t2', A14, c14, e14⟩ := t2
                simp only [RowD.pl, Prod.mk.injEq] at hp1 hp2
                obtain ⟨rfl, rfl, he13⟩ := hp1
                obtain ⟨rfl, rfl, he14⟩ := hp2
                obtain rfl : e13 = e14 := he13.trans he14.symm
                obtain ⟨kk, hkk⟩ : ∃ kk, kk = e13.length := ⟨_, rfl⟩
                have hsr := samerow_any (10 + (i : Int)) i (10 + (i : Int)) i A13 A14 c13 c14 kk kk e13 e13 wl.drew hkk hkk (by rw [hkk]; exact k1.2.1) ((k1.2.2.2.below hbl).more hzl).drew ((k2.2.2.2.below hbl).more hzl).drew
                rw [show sameB (10 + (i : Int)) i (10 + (i : Int)) i e13 e13 = true from decide_eq_true ⟨rfl, rfl, rfl⟩] at hsr
                have qa := fun j hj => (hbl.cell (p := ⟨b1, o1 + i * 3 + j, none⟩) hb1l).trans (rd_cell hr1 j hj)
                have ra := fun j hj => (hbl.cell (p := ⟨b2, o2 + i * 3 + j, none⟩) hb2l).trans (rd_cell hr2 j hj)
                have p1 := (hbl.cell (World.block_lt_of_cell? _ _ u22)).trans u22
                have p2 := (hbl.cell (World.block_lt_of_cell? _ _ u3)).trans u3
                have keep0 : ∀ w', Below wl.heap.size wl w' → w'.cell? ⟨P22, 1, none⟩ = some (.slice (some ⟨b1, o1, none⟩) W c11) ∧ w'.cell? ⟨P3, 1, none⟩ = some (.slice (some ⟨b2, o2, none⟩) Kn c3) ∧ w'.cell? ⟨b1, o1 + i * 3, none⟩ = some (.int .i64 (10 + (i : Int))) ∧ w'.cell? ⟨b1, o1 + i * 3 + 1, none⟩ = some (.int .i64 i) ∧ w'.cell? ⟨b1, o1 + i * 3 + 2, none⟩ = some (.slice A13 kk c13) ∧ w'.cell? ⟨b2, o2 + i * 3, none⟩ = some (.int .i64 (10 + (i : Int))) ∧ w'.cell? ⟨b2, o2 + i * 3 + 1, none⟩ = some (.int .i64 i) ∧ w'.cell? ⟨b2, o2 + i * 3 + 2, none⟩ = some (.slice A14 kk c14) := by
                  intro w' hb'
                  have hx := fun (p : Addr) (v : Value) (h : wl.cell? p = some v) => (hb'.cell (World.block_lt_of_cell? _ _ h)).trans h
                  refine ⟨hx _ _ p1, hx _ _ p2, hx _ _ ?_, hx _ _ ?_, hx _ _ ?_, hx _ _ ?_, hx _ _ ?_, hx _ _ ?_⟩
                  · exact qa 0 (by omega)
                  · exact qa 1 (by omega)
                  · rw [hkk]; exact qa 2 (by omega)
                  · exact ra 0 (by omega)
                  · exact ra 1 (by omega)
                  · rw [hkk]; exact ra 2 (by omega)
                clear qa ra hr1 hr2 k1 k2 he13 he14
                replace hkk := hide hkk
                replace hsr := hide hsr
                go_wp2_with fail
                refine start_ (n := 33) (S := fun w' => w'.cell? ⟨P22, 1, none⟩ = some (.slice (some ⟨b1, o1, none⟩) W c11) ∧ w'.cell? ⟨P3, 1, none⟩ = some (.slice (some ⟨b2, o2, none⟩) Kn c3) ∧ w'.cell? ⟨b1, o1 + i * 3, none⟩ = some (.int .i64 (10 + (i : Int))) ∧ w'.cell? ⟨b1, o1 + i * 3 + 1, none⟩ = some (.int .i64 i) ∧ w'.cell? ⟨b1, o1 + i * 3 + 2, none⟩ = some (.slice A13 kk c13) ∧ w'.cell? ⟨b2, o2 + i * 3, none⟩ = some (.int .i64 (10 + (i : Int))) ∧ w'.cell? ⟨b2, o2 + i * 3 + 1, none⟩ = some (.int .i64 i) ∧ w'.cell? ⟨b2, o2 + i * 3 + 2, none⟩ = some (.slice A14 kk c14)) (ds := []) #[false,false,false,false,false,false,false,false,false,false,false,false,false,false,false,false,false,false,false,false,false,false,false,false,false,false,false,false,false,false,false,false,false] (by kernel_rfl) rfl rfl (keep0 _ (Below.refl _ _).drew) (fun hHeld => ?_)
                refine pure_ (i := 0) (N := some 143) (v := ?_) (a' := ?_) #[true,false,false,false,false,false,false,false,false,false,false,false,false,false,false,false,false,false,false,false,false,false,false,false,false,false,false,false,false,false,false,false,false] rfl rfl (by kernel_rfl) (fun _ _ _ h => h) (Or.inl ⟨by rfl, ?_⟩) ?_ ?_
                rotate_left
                · intro w'
                  go_simp
                  with_reducible rfl
                rotate_left
                · simp only [Act.put, List.setIfInBounds_toArray, List.set_cons_zero, List.set_cons_succ, i64_w, i32_w]
                  rfl
                refine take_ (i := 1) (N := some 144) (v := ?_) (a' := ?_) #[true,true,false,false,false,false,false,false,false,false,false,false,false,false,false,false,false,false,false,false,false,false,false,false,false,false,false,false,false,false,false,false,false] rfl rfl (by kernel_rfl) (fun _ _ _ h => h) (Or.inl ⟨by rfl, ?_⟩) hHeld ?_ ?_
                rotate_left
                · intro w' hs_; obtain ⟨s0, s1, s2, s3, s4, s5, s6, s7⟩ := hs_
                  go_simp
                  with_reducible rfl
                rotate_left
                · simp only [Act.put, List.setIfInBounds_toArray, List.set_cons_zero, List.set_cons_succ, i64_w, i32_w]
                  rfl
                refine pure_ (i := 2) (N := some 145) (v := ?_) (a' := ?_) #[true,true,true,false,false,false,false,false,false,false,false,false,false,false,false,false,false,false,false,false,false,false,false,false,false,false,false,false,false,false,false,false,false] rfl rfl (by kernel_rfl) (fun _ _ _ h => h) (Or.inl ⟨by rfl, ?_⟩) ?_ ?_
                rotate_left
                · intro w'
                  go_simp
                  with_reducible rfl
                rotate_left
                · simp only [Act.put, List.setIfInBounds_toArray, List.set_cons_zero, List.set_cons_succ, i64_w, i32_w]
                  rfl
                refine pure_ (i := 3) (N := some 146) (v := ?_) (a' := ?_) #[true,true,true,true,false,false,false,false,false,false,false,false,false,false,false,false,false,false,false,false,false,false,false,false,false,false,false,false,false,false,false,false,false] rfl rfl (by kernel_rfl) (fun _ _ _ h => h) (Or.inl ⟨by rfl, ?_⟩) ?_ ?_
                rotate_left
                · intro w'
                  go_simp
                  with_reducible rfl
                rotate_left
                · simp only [Act.put, List.setIfInBounds_toArray, List.set_cons_zero, List.set_cons_succ, i64_w, i32_w]
                  rfl
                refine take_ (i := 4) (N := some 147) (v := ?_) (a' := ?_) #[true,true,true,true,true,false,false,false,false,false,false,false,false,false,false,false,false,false,false,false,false,false,false,false,false,false,false,false,false,false,false,false,false] rfl rfl (by kernel_rfl) (fun _ _ _ h => h) (Or.inl ⟨by rfl, ?_⟩) hHeld ?_ ?_
                rotate_left
                · intro w' hs_; obtain ⟨s0, s1, s2, s3, s4, s5, s6, s7⟩ := hs_
                  go_simp
                  with_reducible rfl
                rotate_left
                · simp only [Act.put, List.setIfInBounds_toArray, List.set_cons_zero, List.set_cons_succ, i64_w, i32_w]
                  rfl
                refine pure_ (i := 5) (N := some 148) (v := ?_) (a' := ?_) #[true,true,true,true,true,true,false,false,false,false,false,false,false,false,false,false,false,false,false,false,false,false,false,false,false,false,false,false,false,false,false,false,false] rfl rfl (by kernel_rfl) (fun _ _ _ h => h) (Or.inl ⟨by rfl, ?_⟩) ?_ ?_
                rotate_left
                · intro w'
                  go_simp
                  with_reducible rfl
                rotate_left
                · simp only [Act.put, List.setIfInBounds_toArray, List.set_cons_zero, List.set_cons_succ, i64_w, i32_w]
                  rfl
                refine take_ (i := 6) (N := some 149) (v := ?_) (a' := ?_) #[true,true,true,true,true,true,true,false,false,false,false,false,false,false,false,false,false,false,false,false,false,false,false,false,false,false,false,false,false,false,false,false,false] rfl rfl (by kernel_rfl) (fun _ _ _ h => h) (Or.inl ⟨by rfl, ?_⟩) hHeld ?_ ?_
                rotate_left
                · intro w' hs_; obtain ⟨s0, s1, s2, s3, s4, s5, s6, s7⟩ := hs_
                  go_simp
                  with_reducible rfl
                rotate_left
                · simp only [Act.put, List.setIfInBounds_toArray, List.set_cons_zero, List.set_cons_succ, i64_w, i32_w]
                  rfl
                refine pure_ (i := 7) (N := some 150) (v := ?_) (a' := ?_) #[true,true,true,true,true,true,true,true,false,false,false,false,false,false,false,false,false,false,false,false,false,false,false,false,false,false,false,false,false,false,false,false,false] rfl rfl (by kernel_rfl) (fun _ _ _ h => h) (Or.inl ⟨by rfl, ?_⟩) ?_ ?_
                rotate_left
                · intro w'
                  go_simp
                  with_reducible rfl
                rotate_left
                · simp only [Act.put, List.setIfInBounds_toArray, List.set_cons_zero, List.set_cons_succ, i64_w, i32_w]
                  rfl
                refine pure_ (i := 8) (N := some 151) (v := ?_) (a' := ?_) #[true,true,true,true,true,true,true,true,true,false,false,false,false,false,false,false,false,false,false,false,false,false,false,false,false,false,false,false,false,false,false,false,false] rfl rfl (by kernel_rfl) (fun _ _ _ h => h) (Or.inl ⟨by rfl, ?_⟩) ?_ ?_
                rotate_left
                · intro w'
                  go_simp
                  with_reducible rfl
                rotate_left
                · simp only [Act.put, List.setIfInBounds_toArray, List.set_cons_zero, List.set_cons_succ, i64_w, i32_w]
                  rfl
                refine take_ (i := 9) (N := some 152) (v := ?_) (a' := ?_) #[true,true,true,true,true,true,true,true,true,true,false,false,false,false,false,false,false,false,false,false,false,false,false,false,false,false,false,false,false,false,false,false,false] rfl rfl (by kernel_rfl) (fun _ _ _ h => h) (Or.inl ⟨by rfl, ?_⟩) hHeld ?_ ?_
                rotate_left
                · intro w' hs_; obtain ⟨s0, s1, s2, s3, s4, s5, s6, s7⟩ := hs_
                  go_simp
                  with_reducible rfl
                rotate_left
                · simp only [Act.put, List.setIfInBounds_toArray, List.set_cons_zero, List.set_cons_succ, i64_w, i32_w]
                  rfl
                refine one_ (i := 10) (N := some 153) #[true,true,true,true,true,true,true,true,true,true,true,false,false,false,false,false,false,false,false,false,false,false,false,false,false,false,false,false,false,false,false,false,false] rfl rfl (by kernel_rfl) (by decide) (fun K hK => ?_)
                refine goes_ Try.func14 (by kernel_rfl) rfl #[.agg #[.int .i64 (10 + (i : Int)), .int .i64 i, .slice A13 kk c13], .agg #[.int .i64 (10 + (i : Int)), .int .i64 i, .slice A14 kk c14]] (by rfl) rfl rfl (by (try simp only [List.map_toArray, List.map_cons, List.map_nil]); first | done | rfl) ?_
                with_reducible refine (unhide hsr).mono ?_
                rintro e w6 ⟨rfl, hb6⟩
                have k6 : Below wl.heap.size wl w6 := Below.trans (Below.drew (Below.refl wl.heap.size wl)) hb6
                refine ⟨_, rfl, hK.out _ _ (keep0 _ k6) (fun hHeld => ?_)⟩
                clear hK K
                refine norm_ (a' := ?_) ?_ ?_
                rotate_left
                · show Act.put _ (some 153) _ = _
                  simp only [Act.put, List.setIfInBounds_toArray, List.set_cons_zero, List.set_cons_succ, i64_w, i32_w]
                  rfl
                refine pure_ (i := 11) (N := some 154) (v := ?_) (a' := ?_) #[true,true,true,true,true,true,true,true,true,true,true,true,false,false,false,false,false,false,false,false,false,false,false,false,false,false,false,false,false,false,false,false,false] rfl rfl (by kernel_rfl) (fun _ _ _ h => h) (Or.inl ⟨by rfl, ?_⟩) ?_ ?_
                rotate_left
                · intro w'
                  go_simp
                  with_reducible rfl
                rotate_left
                · simp only [Act.put, List.setIfInBounds_toArray, List.set_cons_zero, List.set_cons_succ, i64_w, i32_w]
                  rfl
                refine pure_ (i := 12) (N := some 155) (v := ?_) (a' := ?_) #[true,true,true,true,true,true,true,true,true,true,true,true,true,false,false,false,false,false,false,false,false,false,false,false,false,false,false,false,false,false,false,false,false] rfl rfl (by kernel_rfl) (fun _ _ _ h => h) (Or.inl ⟨by rfl, ?_⟩) ?_ ?_
                rotate_left
                · intro w'
                  go_simp
                  with_reducible rfl
                rotate_left
                · simp only [Act.put, List.setIfInBounds_toArray, List.set_cons_zero, List.set_cons_succ, i64_w, i32_w]
                  rfl
                refine pure_ (i := 13) (N := some 156) (v := ?_) (a' := ?_) #[true,true,true,true,true,true,true,true,true,true,true,true,true,true,false,false,false,false,false,false,false,false,false,false,false,false,false,false,false,false,false,false,false] rfl rfl (by kernel_rfl) (fun _ _ _ h => h) (Or.inl ⟨by rfl, ?_⟩) ?_ ?_
                rotate_left
                · intro w'
                  go_simp
                  with_reducible rfl
                rotate_left
                · simp only [Act.put, List.setIfInBounds_toArray, List.set_cons_zero, List.set_cons_succ, i64_w, i32_w]
                  rfl
                refine take_ (i := 14) (N := some 157) (v := ?_) (a' := ?_) #[true,true,true,true,true,true,true,true,true,true,true,true,true,true,true,false,false,false,false,false,false,false,false,false,false,false,false,false,false,false,false,false,false] rfl rfl (by kernel_rfl) (fun _ _ _ h => h) (Or.inl ⟨by rfl, ?_⟩) hHeld ?_ ?_
                rotate_left
                · intro w' hs_; obtain ⟨s0, s1, s2, s3, s4, s5, s6, s7⟩ := hs_
                  go_simp
                  with_reducible rfl
                rotate_left
                · simp only [Act.put, List.setIfInBounds_toArray, List.set_cons_zero, List.set_cons_succ, i64_w, i32_w]
                  rfl
                refine pure_ (i := 15) (N := some 158) (v := ?_) (a' := ?_) #[true,true,true,true,true,true,true,true,true,true,true,true,true,true,true,true,false,false,false,false,false,false,false,false,false,false,false,false,false,false,false,false,false] rfl rfl (by kernel_rfl) (fun _ _ _ h => h) (Or.inl ⟨by rfl, ?_⟩) ?_ ?_
                rotate_left
                · intro w'
                  go_simp
                  with_reducible rfl
                rotate_left
                · simp only [Act.put, List.setIfInBounds_toArray, List.set_cons_zero, List.set_cons_succ, i64_w, i32_w]
                  rfl
                refine pure_ (i := 16) (N := some 159) (v := ?_) (a' := ?_) #[true,true,true,true,true,true,true,true,true,true,true,true,true,true,true,true,true,false,false,false,false,false,false,false,false,false,false,false,false,false,false,false,false] rfl rfl (by kernel_rfl) (fun _ _ _ h => h) (Or.inl ⟨by rfl, ?_⟩) ?_ ?_
                rotate_left
                · intro w'
                  go_simp
                  with_reducible rfl
                rotate_left
                · simp only [Act.put, List.setIfInBounds_toArray, List.set_cons_zero, List.set_cons_succ, i64_w, i32_w]
                  rfl
                refine pure_ (i := 17) (N := some 160) (v := ?_) (a' := ?_) #[true,true,true,true,true,true,true,true,true,true,true,true,true,true,true,true,true,true,false,false,false,false,false,false,false,false,false,false,false,false,false,false,false] rfl rfl (by kernel_rfl) (fun _ _ _ h => h) (Or.inl ⟨by rfl, ?_⟩) ?_ ?_
                rotate_left
                · intro w'
                  go_simp
                  with_reducible rfl
                rotate_left
                · simp only [Act.put, List.setIfInBounds_toArray, List.set_cons_zero, List.set_cons_succ, i64_w, i32_w]
                  rfl
                refine take_ (i := 18) (N := some 161) (v := ?_) (a' := ?_) #[true,true,true,true,true,true,true,true,true,true,true,true,true,true,true,true,true,true,true,false,false,false,false,false,false,false,false,false,false,false,false,false,false] rfl rfl (by kernel_rfl) (fun _ _ _ h => h) (Or.inl ⟨by rfl, ?_⟩) hHeld ?_ ?_
                rotate_left
                · intro w' hs_; obtain ⟨s0, s1, s2, s3, s4, s5, s6, s7⟩ := hs_
                  go_simp
                  with_reducible rfl
                rotate_left
                · simp only [Act.put, List.setIfInBounds_toArray, List.set_cons_zero, List.set_cons_succ, i64_w, i32_w]
                  rfl
                refine pure_ (i := 19) (N := some 162) (v := ?_) (a' := ?_) #[true,true,true,true,true,true,true,true,true,true,true,true,true,true,true,true,true,true,true,true,false,false,false,false,false,false,false,false,false,false,false,false,false] rfl rfl (by kernel_rfl) (fun _ _ _ h => h) (Or.inl ⟨by rfl, ?_⟩) ?_ ?_
                rotate_left
                · intro w'
                  go_simp
                  with_reducible rfl
                rotate_left
                · simp only [Act.put, List.setIfInBounds_toArray, List.set_cons_zero, List.set_cons_succ, i64_w, i32_w]
                  rfl
                refine pure_ (i := 20) (N := some 163) (v := ?_) (a' := ?_) #[true,true,true,true,true,true,true,true,true,true,true,true,true,true,true,true,true,true,true,true,true,false,false,false,false,false,false,false,false,false,false,false,false] rfl rfl (by kernel_rfl) (fun _ _ _ h => h) (Or.inl ⟨by rfl, ?_⟩) ?_ ?_
                rotate_left
                · intro w'
                  go_simp
                  with_reducible rfl
                rotate_left
                · simp only [Act.put, List.setIfInBounds_toArray, List.set_cons_zero, List.set_cons_succ, i64_w, i32_w]
                  rfl
                rw [wrap10 hi1000]
                refine pure_ (i := 21) (N := some 164) (v := ?_) (a' := ?_) #[true,true,true,true,true,true,true,true,true,true,true,true,true,true,true,true,true,true,true,true,true,true,false,false,false,false,false,false,false,false,false,false,false] rfl rfl (by kernel_rfl) (fun _ _ _ h => h) (Or.inl ⟨by rfl, ?_⟩) ?_ ?_
                rotate_left
                · intro w'
                  go_simp
                  with_reducible rfl
                rotate_left
                · simp only [Act.put, List.setIfInBounds_toArray, List.set_cons_zero, List.set_cons_succ, i64_w, i32_w]
                  rfl
                refine pure_ (i := 22) (N := some 165) (v := ?_) (a' := ?_) #[true,true,true,true,true,true,true,true,true,true,true,true,true,true,true,true,true,true,true,true,true,true,true,false,false,false,false,false,false,false,false,false,false] rfl rfl (by kernel_rfl) (fun _ _ _ h => h) (Or.inl ⟨by rfl, ?_⟩) ?_ ?_
                rotate_left
                · intro w'
                  go_simp
                  with_reducible rfl
                rotate_left
                · simp only [Act.put, List.setIfInBounds_toArray, List.set_cons_zero, List.set_cons_succ, i64_w, i32_w]
                  rfl
                refine pure_ (i := 23) (N := some 166) (v := ?_) (a' := ?_) #[true,true,true,true,true,true,true,true,true,true,true,true,true,true,true,true,true,true,true,true,true,true,true,true,false,false,false,false,false,false,false,false,false] rfl rfl (by kernel_rfl) (fun _ _ _ h => h) (Or.inl ⟨by rfl, ?_⟩) ?_ ?_
                rotate_left
                · intro w'
                  go_simp
                  with_reducible rfl
                rotate_left
                · simp only [Act.put, List.setIfInBounds_toArray, List.set_cons_zero, List.set_cons_succ, i64_w, i32_w]
                  rfl
                refine pure_ (i := 24) (N := some 167) (v := ?_) (a' := ?_) #[true,true,true,true,true,true,true,true,true,true,true,true,true,true,true,true,true,true,true,true,true,true,true,true,true,false,false,false,false,false,false,false,false] rfl rfl (by kernel_rfl) (fun _ _ _ h => h) (Or.inl ⟨by rfl, ?_⟩) ?_ ?_
                rotate_left
                · intro w'
                  go_simp
                  with_reducible rfl
                rotate_left
                · simp only [Act.put, List.setIfInBounds_toArray, List.set_cons_zero, List.set_cons_succ, i64_w, i32_w]
                  rfl
                refine take_ (i := 25) (N := some 168) (v := ?_) (a' := ?_) #[true,true,true,true,true,true,true,true,true,true,true,true,true,true,true,true,true,true,true,true,true,true,true,true,true,true,false,false,false,false,false,false,false] rfl rfl (by kernel_rfl) (fun _ _ _ h => h) (Or.inl ⟨by rfl, ?_⟩) hHeld ?_ ?_
                rotate_left
                · intro w' hs_; obtain ⟨s0, s1, s2, s3, s4, s5, s6, s7⟩ := hs_
                  go_simp
                  with_reducible rfl
                rotate_left
                · simp only [Act.put, List.setIfInBounds_toArray, List.set_cons_zero, List.set_cons_succ, i64_w, i32_w]
                  rfl
                refine pure_ (i := 26) (N := some 169) (v := ?_) (a' := ?_) #[true,true,true,true,true,true,true,true,true,true,true,true,true,true,true,true,true,true,true,true,true,true,true,true,true,true,true,false,false,false,false,false,false] rfl rfl (by kernel_rfl) (fun _ _ _ h => h) (Or.inl ⟨by rfl, ?_⟩) ?_ ?_
                rotate_left
                · intro w'
                  go_simp
                  with_reducible rfl
                rotate_left
                · simp only [Act.put, List.setIfInBounds_toArray, List.set_cons_zero, List.set_cons_succ, i64_w, i32_w]
                  rfl
                refine pure_ (i := 27) (N := some 170) (v := ?_) (a' := ?_) #[true,true,true,true,true,true,true,true,true,true,true,true,true,true,true,true,true,true,true,true,true,true,true,true,true,true,true,true,false,false,false,false,false] rfl rfl (by kernel_rfl) (fun _ _ _ h => h) (Or.inl ⟨by rfl, ?_⟩) ?_ ?_
                rotate_left
                · intro w'
                  go_simp
                  with_reducible rfl
                rotate_left
                · simp only [Act.put, List.setIfInBounds_toArray, List.set_cons_zero, List.set_cons_succ, i64_w, i32_w]
                  rfl
                refine pure_ (i := 28) (N := some 171) (v := ?_) (a' := ?_) #[true,true,true,true,true,true,true,true,true,true,true,true,true,true,true,true,true,true,true,true,true,true,true,true,true,true,true,true,true,false,false,false,false] rfl rfl (by kernel_rfl) (fun _ _ _ h => h) (Or.inl ⟨by rfl, ?_⟩) ?_ ?_
                rotate_left
                · intro w'
                  go_simp
                  with_reducible rfl
                rotate_left
                · simp only [Act.put, List.setIfInBounds_toArray, List.set_cons_zero, List.set_cons_succ, i64_w, i32_w]
                  rfl
                refine take_ (i := 29) (N := some 172) (v := ?_) (a' := ?_) #[true,true,true,true,true,true,true,true,true,true,true,true,true,true,true,true,true,true,true,true,true,true,true,true,true,true,true,true,true,true,false,false,false] rfl rfl (by kernel_rfl) (fun _ _ _ h => h) (Or.inl ⟨by rfl, ?_⟩) hHeld ?_ ?_
                rotate_left
                · intro w' hs_; obtain ⟨s0, s1, s2, s3, s4, s5, s6, s7⟩ := hs_
                  go_simp
                  with_reducible rfl
                rotate_left
                · simp only [Act.put, List.setIfInBounds_toArray, List.set_cons_zero, List.set_cons_succ, i64_w, i32_w]
                  rfl
                refine pure_ (i := 30) (N := some 173) (v := ?_) (a' := ?_) #[true,true,true,true,true,true,true,true,true,true,true,true,true,true,true,true,true,true,true,true,true,true,true,true,true,true,true,true,true,true,true,false,false] rfl rfl (by kernel_rfl) (fun _ _ _ h => h) (Or.inl ⟨by rfl, ?_⟩) ?_ ?_
                rotate_left
                · intro w'
                  go_simp
                  with_reducible rfl
                rotate_left
                · simp only [Act.put, List.setIfInBounds_toArray, List.set_cons_zero, List.set_cons_succ, i64_w, i32_w]
                  rfl
                refine pure_ (i := 31) (N := some 174) (v := ?_) (a' := ?_) #[true,true,true,true,true,true,true,true,true,true,true,true,true,true,true,true,true,true,true,true,true,true,true,true,true,true,true,true,true,true,true,true,false] rfl rfl (by kernel_rfl) (fun _ _ _ h => h) (Or.inl ⟨by rfl, ?_⟩) ?_ ?_
                rotate_left
                · intro w'
                  go_simp
                  with_reducible rfl
                rotate_left
                · simp only [Act.put, List.setIfInBounds_toArray, List.set_cons_zero, List.set_cons_succ, i64_w, i32_w]
                  rfl
                refine pure_ (i := 32) (N := some 175) (v := ?_) (a' := ?_) #[true,true,true,true,true,true,true,true,true,true,true,true,true,true,true,true,true,true,true,true,true,true,true,true,true,true,true,true,true,true,true,true,true] rfl rfl (by kernel_rfl) (fun _ _ _ h => h) (Or.inl ⟨by rfl, ?_⟩) ?_ ?_
                rotate_left
                · intro w'
                  go_simp
                  with_reducible rfl
                rotate_left
                · simp only [Act.put, List.setIfInBounds_toArray, List.set_cons_zero, List.set_cons_succ, i64_w, i32_w]
                  rfl
                refine done_ (by kernel_rfl) ?_
                have hbl2 := hbl.trans (k6.mono hzl)
                clear keep0
                go_wp2_with fail
                go_roundw
                case rel => exact ⟨i + 1, by omega, by go_num, hbl2⟩
                case measure => simp [intOf]; omega
              · obtain rfl : i = W := by omega
                have hiWI : ¬ (i : Int) < 1 + (k : Int) - 2 := by have := unhide hWI; omega
                have hbF := hb12w.trans (hbl.mono hb12w.size)
                go_wp2_with fail
                go_ret
                exact ⟨rfl, hbF⟩
            -- }LOOPC
  · have hlf : decide ((30 : Int) < (n : Int)) = true ∨ (decide ((30 : Int) < (n : Int)) = false ∧ decide ((60 : Int) < (R : Int)) = true) := by
      by_cases h : n ≤ 30
      · right; constructor
        · simp; omega
        · simp; omega
      · left; simp; omega
    rcases hlf with hlf | ⟨hlf, hlf2⟩
    · go_wp2_with fail
      go_ret
      exact ⟨rfl, hb1⟩
    · go_wp2_with fail
      go_ret
      exact ⟨rfl, hb1⟩
end Go.Proofs.Ytodbmgafejclmaa.Base
