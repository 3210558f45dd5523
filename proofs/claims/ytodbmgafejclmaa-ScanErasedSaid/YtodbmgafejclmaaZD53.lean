/-
  Parts of a proof, laid together by a program of mine (pack.py): Ew.
-/
import Derived.Deep.DeepCutAuto
import Derived.Test.YtodbmgafejclmaaZD52
namespace Go.Proofs.Ytodbmgafejclmaa.Base
open Go.RowKit Go.Maps Go.Proofs.YtodbmgafejclmaaW.PrintWords Go.Proofs.YtodbmgafejclmaaW.PrintLast
set_option linter.unusedSimpArgs false
set_option linter.unusedVariables false
attribute [local go_sem] fld_super0 fld_super1
theorem i64_wrap (n : Int) : I64 (wrap64 n) := by unfold I64 wrap64; omega
theorem soundR_le {s : Int} {T : List PR} : ∀ n : Nat, (soundR s T n).length ≤ n
  | 0 => Nat.le_refl _
  | n + 1 => by
    have := soundR_le (s := s) (T := T) n
    rw [soundR, List.length_append]
    split <;> simp <;> omega
theorem lookP_le {s : Int} {T : List PR} (h : 0 ≤ lastS T) (n : Nat) (hn : (lastS T).toNat ≤ n) : (lookP s T).2.length ≤ n := by
  rw [lookP_st h]
  exact Nat.le_trans (soundR_le _) hn
theorem any_take {α : Type} {T : List α} {f : α → Bool} {i : Nat} (hi : i < T.length) : (T.take (i + 1)).any f = ((T.take i).any f || f T[i]) := by
  rw [List.take_succ_eq_append_getElem hi, List.any_append]
  simp
set_option maxRecDepth 100000 in
set_option maxHeartbeats 4000000 in
theorem erased_walk (a0 a1 a3 a6 : Int) (A A4 A5 : Option Addr) (c c4 c5 n R M : Nat) (es : List Ent) (raw : List Int) (bad : List Bool) (w : World) (h0 : I64 a0) (h1 : I64 a1) (h3 : I64 a3) (hn : n = es.length) (hc : n ≤ c) (hm : c ≤ maxLen) (hs : Sl w 0 w.heap.size 19 A (es.map Ent.arr)) (hwf : ∀ e ∈ es, e.Wf)
    (hR : R = raw.length) (hc4 : R ≤ c4) (hm4 : c4 ≤ maxLen) (hs4 : Sl w 0 w.heap.size 1 A4 (By raw)) (hM : M = bad.length) (hc5 : M ≤ c5) (hm5 : c5 ≤ maxLen) (hs5 : Sl w 0 w.heap.size 1 A5 (bad.map fun x => #[.bool x])) :
    Calls Try.prog 4 #[.int .i64 a0, .int .i64 a1, .slice A n c, .int .i64 a3, .slice A4 R c4, .slice A5 M c5, .int .i64 a6] w fun e w' => e = .returned (.bool true) ∧ Below w.heap.size w w' := by
  obtain ⟨q, hq, hw0⟩ := w13_lt a0 3 h0 (by omega) (by omega)
  obtain ⟨N', hN', hw1⟩ := w13_lt a1 7 h1 (by omega) (by omega)
  obtain ⟨G, hG, hw3⟩ := w13_lt a3 (6 + (q : Int)) h3 (by omega) (by omega)
  have hMl : M ≤ maxLen := Nat.le_trans hc5 hm5
  have hRl : R ≤ maxLen := Nat.le_trans hc4 hm4
  unfold maxLen at hMl hRl
  obtain ⟨D, hDl, hDb, hdat⟩ := data_any A4 c4 R raw w hR hc4 (by omega) hs4
  have hn' := hide hn
  clear hn
  have hM' := hide hM
  clear hM hR hs4
  replace hDl := hide hDl
  replace hDb := hide hDb
  go_enter Try.func4, Try.ntmps4
  go_wp2_with fail
  refine (known13 _).mono ?_
  rintro e w1 ⟨rfl, hb1⟩
  by_cases hl : n ≤ 30 ∧ R ≤ 60
  · obtain ⟨hl, hlR⟩ := hl
    have hlI : (n : Int) ≤ 30 := by omega
    have hlRI : (R : Int) ≤ 60 := by omega
    have hlB : decide ((30 : Int) < (n : Int)) = false := by simp; omega
    have hlRB : decide ((60 : Int) < (R : Int)) = false := by simp; omega
    go_wp2_with fail
    refine (hw0 _).mono ?_
    rintro e wq ⟨rfl, rfl⟩
    go_wp2_with fail
    refine (hw1 _).mono ?_
    rintro e wq ⟨rfl, rfl⟩
    have hmk := make_any 3 (6 + (q : Int)) (2 + (N' : Int)) (2 + (N' : Int)) (4 + q) (2 + N') n c A es w1 (by omega) (by omega) (by omega) (by omega) (by omega) ⟨by omega, by omega⟩ (unhide hn') hl hc ((hs.below hb1).more hb1.size) hwf
    go_wp2_with fail
    (with_reducible refine hmk.mono ?_)
    rintro x w2 ⟨A2, c2, T, rfl, hc2, hT, hq2, hP2, hb2⟩
    have hmade : Made 3 (4 + q) (2 + N' : Nat) (2 + N') es T := ⟨hT, fun j hj => by rw [hq2 j hj]; congr 1⟩
    have hlk := look_pn 3 A2 c2 (2 + N') w1.heap.size T w2 hP2 hT.symm (by omega) hc2
    have hk2 := look_all hmade (by omega) hwf (by omega) (by omega)
    obtain ⟨⟨st, rows⟩, hlp⟩ : ∃ r, r = lookP 3 T := ⟨_, rfl⟩
    rw [← hlp] at hk2 hlk
    simp only at hk2
    obtain ⟨Kn, hKk⟩ : ∃ Kn, Kn = 2 + N' - 1 := ⟨_, rfl⟩
    rw [← hKk] at hk2
    have hrl : rows.length = Kn := by rw [hk2, List.length_map, List.length_range]
    unfold LkA at hlk
    simp only at hlk
    rw [hrl] at hlk
    have hb12 := hb1.trans (hb2.mono hb1.size)
    clear hmk hq2 hw0 hw1 hlp hrl
    replace hT := hide hT
    replace hk2 := hide hk2
    replace hKk := hide hKk
    replace hmade := hide hmade
    go_wp2_with fail
    (with_reducible refine hlk.mono ?_)
    rintro x w3 ⟨⟨A3, c3, T4, rfl, hc3, hT4, hR4⟩, hb3⟩
    clear hlk
    have hb13 := hb12.trans (hb3.mono hb12.size)
    have hP3 := hP2.below hb3
    obtain ⟨g, rfl, hg1, hg3, hjunk⟩ := hP2.some_of (by omega)
    clear hjunk hP2
    obtain ⟨W4, hW4⟩ : ∃ W4, W4 = w3.alloc (Obj.cells #[.int .i64 st, .slice A3 Kn c3] 31) := ⟨_, rfl⟩
    have hb34 : Below w3.heap.size w3 W4 := by rw [hW4]; exact (Below.refl _ _).alloc (Nat.le_refl _) _
    have f4 : W4.heap[w3.heap.size]? = some (.cells #[.int .i64 st, .slice A3 Kn c3] 31 (0, 0)) := by rw [hW4]; exact heap_alloc_new _ _
    have hb14 := hb13.trans (hb34.mono hb13.size)
    have hP4 := hP3.below hb34
    have hR5 := hR4.below hb34
    have hz34 := hb34.size
    have hz23 := hb3.size
    have hg2 : g < W4.heap.size := by omega
    go_wp2_with fail
    refine (hw3 _).mono ?_
    rintro e wq ⟨rfl, rfl⟩
    rw [← hW4]
    obtain ⟨P3, hP3e⟩ : ∃ P3, P3 = w3.heap.size := ⟨_, rfl⟩
    rw [← hP3e] at f4 ⊢
    have hP3W : P3 < W4.heap.size := (Array.getElem?_eq_some_iff.1 f4).1
    clear hW4 hb34 hw3 hP3 hR4 hz34 hz23
    replace f4 := hide f4
    replace hP3e := hide hP3e
    replace hT4 := hide hT4
    go_wp2_with fail
    go_loopw [20, 21] (fun s20 s21 wr => ∃ (k : Nat) (A9 : Option Addr) (c9 : Nat) (T9 : List PR), k ≤ 2 + N' ∧ s21 = .int .i64 k ∧ s20 = .slice A9 k c9 ∧ k ≤ c9 ∧ Hid (RowsE (4 + q) (2 + N') es G k T9) ∧ Pn wr W4.heap.size (.slice A9 k c9) T9 ∧ Below W4.heap.size W4 wr) (fun _ s21 _ => 2 + N' - (intOf s21).toNat)
    case atStart => exact ⟨0, none, 0, [], by omega, rfl, rfl, Nat.le_refl _, hide ⟨rfl, fun j hj => by omega⟩, Pn.nil _ _, Below.refl _ _⟩
    case round =>
      obtain ⟨k, A9, c9, T9, hk, rfl, rfl, hkc, hre, hP9, hb⟩ := hrel
      have hz := hb.size
      by_cases hkN : k < 2 + N'
      · have hkNI : (k : Int) < 2 + (N' : Int) := by omega
        have hkNI2 : (k : Int) < ((2 + N' : Nat) : Int) := by omega
        have hk0 : (0 : Int) ≤ k := by omega
        have hPr := hP4.below hb
        have hiT : k < T.length := by rw [unhide hT]; exact hkN
        obtain ⟨hr4, hap4⟩ := hPr.row hiT
        have hrW4 := (hP4.row hiT).1
        have hgz : g < wr.heap.size := by omega
        have hci : wr.cell? ⟨g, k, none⟩ = some (T.getD k zPR).cell := hPr.cell hiT
        have hgq : ∃ gq, gq < wr.heap.size ∧ (∀ b, (Value.slice A9 k c9).ownBlock = some b → b = gq) ∧ ∀ p ∈ (T.getD k zPR).2.2, ∀ a, p.2.1 = some a → a.block ≠ gq := by
          cases ho : (Value.slice A9 k c9).ownBlock with
          | none => exact ⟨g, by omega, fun b h => by simp at h, hap4⟩
          | some b => exact ⟨b, (hP9.1.lt b ho).2, fun b' h => by injection h with h; exact h.symm, fun p hp a ha e => by have h1 := (hrW4.2.2.2.2 p hp).2.2.2.1 a ha; have h2 := (hP9.1.lt b ho).1; omega⟩
        obtain ⟨gq, hgq1, hgq2, hapq⟩ := hgq
        have hrow := (unhide hmade).row (k := k) hkN (by omega)
        have hpl : 4 + q + 2 = (T.getD k zPR).2.2.length := ((unhide hmade).dec (by omega) (by omega) hwf (by omega) (k := k) hkN (by omega)).1.symm
        obtain ⟨A6, c6, w5, hrun5, hx5, hb5⟩ := Xr.copy wr gq (T.getD k zPR) (4 + q + 2) hpl hr4 hapq hgq1 33
        have hce : (T.getD k zPR).cell = .slice (T.getD k zPR).1 (4 + q + 2) (T.getD k zPR).2.1 := by rw [PR.cell, ← hpl]
        rw [hce] at hci
        have hpg : (T.getD k zPR).2.2 = pgsOf T k := rfl
        rw [← hpg] at hrow
        obtain ⟨⟨rA, rc, rp⟩, hrr⟩ : ∃ r, r = T.getD k zPR := ⟨_, rfl⟩
        rw [← hrr] at hci hrun5 hx5 hrow hpl
        simp only at hci hrun5 hx5 hrow hpl
        obtain ⟨j, hj, hwj⟩ := w13_lt (wrap64 (a6 + (k : Int))) (2 * (6 + (q : Int))) (i64_wrap _) (by omega) (by omega)
        have hbl0 : BlkE (4 + q) 0 rp rp := BlkE.start hpl.symm
        have hM2 := unhide hM'
        clear hr4 hap4 hrW4 hce hrr hPr hiT hapq hpg hpl
        replace hrow := hide hrow
        replace hbl0 := hide hbl0
        replace hM2 := hide hM2
        go_wp2_with (at_builtin; refine wpList_step (fun K hK => step_append_ex (o := ⟨some 65, _, _, _, _, _⟩) (.tmp 60) (.tmp 64) 33 rfl (by rfl) ?_); (with_reducible refine app_ex hrun5 ?_ (hK _ _ ?_)); rfl)
        clear hrun5 hci
        obtain ⟨x, rfl, hx51, hx52⟩ := hx5.some_of (by omega)
        go_loopw [23] (fun s23 wl => ∃ (i : Nat) (ps : List Pg), i ≤ G ∧ s23 = .int .i64 i ∧ Hid (BlkE (4 + q) i rp ps) ∧ Xr wl wr.heap.size gq (some ⟨x, 0, none⟩) (4 + q + 2) c6 ps ∧ Below wr.heap.size wr wl) (fun s23 _ => G - (intOf s23).toNat)
        case atStart => exact ⟨0, rp, by omega, rfl, hbl0, hx5, hb5⟩
        case round =>
          rename World => wl
          clear hx5 hb5 hx52 hbl0
          obtain ⟨i, ps, hi, rfl, hbl, hx, hbr⟩ := hrel
          have hzr := hbr.size
          by_cases hiG : i < G
          · have hiGI : (i : Int) < G := by omega
            have hid : i < 4 + q + 2 := by omega
            have hidI2 : (i : Int) < ((4 + q + 2 : Nat) : Int) := by omega
            have hi0 : (0 : Int) ≤ i := by omega
            obtain ⟨hx7, n1, n2, f1, f2⟩ := hx.set hx51 i hid ((0, none, 0, []) : Pg) (PgOk.bad _ 0) ⟨by decide, by decide⟩ (fun a ha => by cases ha)
            obtain ⟨v1, n1⟩ := some_of_ne n1
            obtain ⟨v2, n2⟩ := some_of_ne n2
            have hx8 : Xr ((wl.setCell ⟨x, i * 2, none⟩ (.int .i64 0)).setCell ⟨x, i * 2 + 1, none⟩ (.slice none 0 0)) wr.heap.size gq (some ⟨x, 0, none⟩) (4 + q + 2) c6 (ps.set i ((0, none, 0, []) : Pg)) := hx7
            have hb8 : Below wr.heap.size wr ((wl.setCell ⟨x, i * 2, none⟩ (.int .i64 0)).setCell ⟨x, i * 2 + 1, none⟩ (.slice none 0 0)) := (hbr.setCell hx51 _).setCell hx51 _
            have hbl8 := hide ((unhide hbl).step hid)
            clear hx hx7 hbr hbl
            go_wp2_with fail
            go_roundw
            case rel => exact ⟨i + 1, _, by omega, by go_num, hbl8, hx8, hb8⟩
            case measure => simp [intOf]; omega
          · obtain rfl : i = G := by omega
            have hid : i < 4 + q + 2 := by omega
            have hidI2 : (i : Int) < ((4 + q + 2 : Nat) : Int) := by omega
            have hi0 : (0 : Int) ≤ i := by omega
            have hiiI : ¬ (i : Int) < i := by omega
            have hbwl : Below w.heap.size w wl := hb14.trans ((hb.trans (hbr.mono hz)).mono hb14.size)
            have hdw := hdat wl hbwl
            go_wp2_with fail
            (with_reducible refine hdw.mono ?_)
            rintro e w8 ⟨A8, c8, rfl, hc8, hs8, hA8, hb8⟩
            have hx' := hx.below hb8
            have hgw : gq < wl.heap.size := by omega
            have hxl : x < wl.heap.size := (hx.own.lt x rfl).2
            have hpg : PgOk w8 ((2, A8, c8, D) : Pg) := ⟨by show D.length ≤ c8; rw [unhide hDl]; exact hc8, by show D.length ≤ 1000000; rw [unhide hDl]; omega, (hs8.less (Nat.zero_le _)), fun a ha => (hA8 a ha).2, unhide hDb⟩
            obtain ⟨hx7, n1, n2, f1, f2⟩ := hx'.set hx51 i hid ((2, A8, c8, D) : Pg) hpg (show I64 2 from ⟨by decide, by decide⟩) (fun a ha => ⟨by have := (hA8 a ha).1; omega, by have := (hA8 a ha).1; omega⟩)
            obtain ⟨v1, n1⟩ := some_of_ne n1
            obtain ⟨v2, n2⟩ := some_of_ne n2
            have hx8 : Xr ((w8.setCell ⟨x, i * 2, none⟩ (.int .i64 2)).setCell ⟨x, i * 2 + 1, none⟩ (.slice A8 48 c8)) wr.heap.size gq (some ⟨x, 0, none⟩) (4 + q + 2) c6 (ps.set i (2, A8, c8, D)) := by have := hx7; simp only [Hr.cell, unhide hDl] at this; exact this
            have hb9 : Below wr.heap.size wr ((w8.setCell ⟨x, i * 2, none⟩ (.int .i64 2)).setCell ⟨x, i * 2 + 1, none⟩ (.slice A8 48 c8)) := ((hbr.trans (hb8.mono hbr.size)).setCell hx51 _).setCell hx51 _
            have hE1 := RowE.data (A := A8) (c := c8) (by omega) hwf (by omega) (unhide hDl) (unhide hDb) hid (unhide hrow) (unhide hbl)
            have hE2 := RowE.bad (by omega) hwf (by omega) hid (unhide hrow) (unhide hbl)
            clear hx hx' hx7 hbr hbl hpg hs8 hA8 hb8 hdw hbwl hgw hxl hzr
            replace hE1 := hide hE1
            replace hE2 := hide hE2
            go_upto_region 19 with fail
            obtain ⟨WD, hWD⟩ : ∃ WD, WD = ((w8.setCell ⟨x, i * 2, none⟩ (.int .i64 2)).setCell ⟨x, i * 2 + 1, none⟩ (.slice A8 48 c8)) := ⟨_, rfl⟩
            rw [← hWD] at hx8 hb9 ⊢
            clear hWD n1 n2 f1 f2
            go_cut [90] (fun s90 wx => ∃ b : Bool, s90 = .bool b ∧ WD = wx)
            case first =>
              by_cases hkM : k < M
              · have hkMI : (k : Int) < M := by omega
                have hkMB : decide ((k : Int) < (M : Int)) = true := by simp; omega
                have hbl' : k < bad.length := by rw [← unhide hM']; exact hkM
                obtain ⟨b5, o5, rfl, _, hb5l, hr5⟩ := hs5.at_ (k := k) (by rw [List.length_map]; exact hbl')
                have hc5' : WD.cell? ⟨b5, o5 + k, none⟩ = some (.bool bad[k]) := by
                  have := rd_cell ((rd_below (hb14.trans ((hb.trans (hb9.mono hz)).mono hb14.size)) hb5l _ _).trans hr5) 0 (by omega)
                  rw [Nat.mul_one, Nat.add_zero] at this
                  rw [this]
                  simp
                obtain ⟨bv, hbv⟩ : ∃ bv, bv = bad[k] := ⟨_, rfl⟩
                rw [← hbv] at hc5'
                clear hr5 hbv
                go_wp2_with fail
                go_meet
                exact ⟨bv, rfl, rfl⟩
              · have hkMI : ¬ (k : Int) < M := by omega
                have hkMB : decide ((k : Int) < (M : Int)) = false := by simp; omega
                go_wp2_with fail
                go_meet
                exact ⟨false, rfl, rfl⟩
            case rest =>
              obtain ⟨b, rfl, rfl⟩ := hcut
              go_upto_if 90 with fail
              go_cut [22] (fun s22 wx => s22 = .slice (some ⟨x, 0, none⟩) (4 + q + 2) c6 ∧ ∃ ps' : List Pg, Hid (RowE (4 + q) (2 + N') es i k ps' ∧ ∀ j, i < j → j < 4 + q + 2 → RowE (4 + q) (2 + N') es i k (ps'.set j badPg)) ∧ Xr wx wr.heap.size gq (some ⟨x, 0, none⟩) (4 + q + 2) c6 ps' ∧ Below wr.heap.size wr wx)
              case first =>
                cases b with
                | true =>
                  obtain ⟨hx7, n1, n2, f1, f2⟩ := hx8.set hx51 i hid badPg (PgOk.bad _ 1) ⟨by decide, by decide⟩ (fun a ha => by cases ha)
                  obtain ⟨v1, n1⟩ := some_of_ne n1
                  obtain ⟨v2, n2⟩ := some_of_ne n2
                  have hx10 : Xr ((WD.setCell ⟨x, i * 2, none⟩ (.int .i64 1)).setCell ⟨x, i * 2 + 1, none⟩ (.slice none 0 0)) wr.heap.size gq (some ⟨x, 0, none⟩) (4 + q + 2) c6 (ps.set i badPg) := by have := hx7; rw [List.set_set] at this; exact this
                  have hb10 : Below wr.heap.size wr ((WD.setCell ⟨x, i * 2, none⟩ (.int .i64 1)).setCell ⟨x, i * 2 + 1, none⟩ (.slice none 0 0)) := (hb9.setCell hx51 _).setCell hx51 _
                  clear hx7 hx8 hb9
                  go_wp2_with fail
                  go_meet
                  exact ⟨rfl, _, hE2, hx10, hb10⟩
                | false =>
                  go_wp2_with fail
                  go_meet
                  exact ⟨rfl, _, hE1, hx8, hb9⟩
              case rest =>
                obtain ⟨rfl, ps', hE, hx11, hb11⟩ := hcut
                clear hx8 hb9 hE1 hE2
                go_wp2_with fail
                refine (hwj _).mono ?_
                rintro e wq ⟨rfl, rfl⟩
                by_cases hjd : j < 4 + q + 2
                · have hjdI : (j : Int) < 6 + (q : Int) := by omega
                  have hjdB : decide ((j : Int) < 6 + (q : Int)) = true := by simp; omega
                  have hjdI2 : (j : Int) < ((4 + q + 2 : Nat) : Int) := by omega
                  have hj0 : (0 : Int) ≤ j := by omega
                  by_cases hjg : i < j
                  · have hjgB : decide ((i : Int) < (j : Int)) = true := by simp; omega
                    have hjgI : (i : Int) < j := by omega
                    obtain ⟨hx7, n1, n2, f1, f2⟩ := hx11.set hx51 j hjd badPg (PgOk.bad _ 1) ⟨by decide, by decide⟩ (fun a ha => by cases ha)
                    obtain ⟨v1, n1⟩ := some_of_ne n1
                    obtain ⟨v2, n2⟩ := some_of_ne n2
                    have hx12 : Xr ((wc.setCell ⟨x, j * 2, none⟩ (.int .i64 1)).setCell ⟨x, j * 2 + 1, none⟩ (.slice none 0 0)) wr.heap.size gq (some ⟨x, 0, none⟩) (4 + q + 2) c6 (ps'.set j badPg) := hx7
                    have hb12' : Below wr.heap.size wr ((wc.setCell ⟨x, j * 2, none⟩ (.int .i64 1)).setCell ⟨x, j * 2 + 1, none⟩ (.slice none 0 0)) := (hb11.setCell hx51 _).setCell hx51 _
                    clear hx7 hx11 hb11
                    obtain ⟨WE, hWE⟩ : ∃ WE, WE = ((wc.setCell ⟨x, j * 2, none⟩ (.int .i64 1)).setCell ⟨x, j * 2 + 1, none⟩ (.slice none 0 0)) := ⟨_, rfl⟩
                    rw [← hWE] at hx12 hb12'
                    have hzE := hb12'.size
                    have hb6 := (Below.refl WE.heap.size WE).alloc (Nat.le_refl _) (.cells #[.slice (some ⟨x, 0, none⟩) (4 + q + 2) c6] 33)
                    have hcl : PR.cell ((some ⟨x, 0, none⟩, c6, ps'.set j badPg) : PR) = .slice (some ⟨x, 0, none⟩) (4 + q + 2) c6 := by rw [PR.cell, ← hx12.len]
                    have hxw : x < WE.heap.size := (hx12.own.lt x rfl).2
                    have hrE : PrOk WE (some ⟨x, 0, none⟩, c6, ps'.set j badPg) := ⟨by show List.length _ ≤ c6; rw [← hx12.len]; exact hx12.hc, by show List.length _ ≤ 1000; rw [← hx12.len]; exact hx12.le, hx12.i64, (hx12.own.sl (Pg.sized _) (by omega)).less (Nat.zero_le _), hx12.at_⟩
                    obtain ⟨A7, c7, w7, hrun7, hP7, hg7, hc7⟩ := Pn.app (WE.alloc (.cells #[.slice (some ⟨x, 0, none⟩) (4 + q + 2) c6] 33)) W4.heap.size k (.slice A9 k c9) T9 ((hP9.below hb12').below hb6) (unhide hre).1 (some ⟨x, 0, none⟩, c6, ps'.set j badPg) ⟨WE.heap.size, 0, none⟩ (by rw [hcl]; exact cell_new1 _ _ _) (hrE.below hb6)
                      ⟨fun a ha => by cases ha; exact ⟨by show x < _; rw [World.size_alloc]; omega, fun e => by have h9 : x = gq := hgq2 _ e.symm; omega⟩, fun p hp a ha e => (hx12.ap p hp a ha).1 (hgq2 _ e.symm)⟩ (by omega) (by rw [World.size_alloc]; omega) 27
                    have hb7 : Below W4.heap.size W4 w7 := below_grown ((hb.trans (hb12'.mono hz)).trans (hb6.mono (by omega))) hg7 (by rw [World.size_alloc]; omega) (fun j e => (hP9.1.lt j e).1)
                    have hre7 := hide ((unhide hre).app (r := (some ⟨x, 0, none⟩, c6, ps'.set j badPg)) ((unhide hE).2 j hjg hjd))
                    subst hWE
                    (try simp only [World.size_alloc, World.size_setCell] at hrun7)
                    clear hP9 hre hx12 hb12' hzE hb6 hcl hxw hrE hg7 hE
                    go_wp2_with (at_builtin; refine wpList_step (fun K hK => step_append_ex (o := ⟨some 116, _, _, _, _, _⟩) (.tmp 113) (.tmp 115) 27 rfl (by rfl) ?_); (with_reducible refine app_ex hrun7 ?_ (hK _ _ ?_)); rfl)
                    go_roundw
                    case rel => exact ⟨k + 1, A7, c7, _, by omega, by go_num, rfl, hc7, hre7, hP7, hb7⟩
                    case measure => simp [intOf]; omega
                  · have hjgB : decide ((i : Int) < (j : Int)) = false := by simp; omega
                    have hjgI : ¬ (i : Int) < j := by omega
                    obtain ⟨WE, hWE⟩ : ∃ WE, WE = wc := ⟨_, rfl⟩
                    rw [← hWE] at hx11 hb11
                    have hzE := hb11.size
                    have hb6 := (Below.refl WE.heap.size WE).alloc (Nat.le_refl _) (.cells #[.slice (some ⟨x, 0, none⟩) (4 + q + 2) c6] 33)
                    have hcl : PR.cell ((some ⟨x, 0, none⟩, c6, ps') : PR) = .slice (some ⟨x, 0, none⟩) (4 + q + 2) c6 := by rw [PR.cell, ← hx11.len]
                    have hxw : x < WE.heap.size := (hx11.own.lt x rfl).2
                    have hrE : PrOk WE (some ⟨x, 0, none⟩, c6, ps') := ⟨by show List.length _ ≤ c6; rw [← hx11.len]; exact hx11.hc, by show List.length _ ≤ 1000; rw [← hx11.len]; exact hx11.le, hx11.i64, (hx11.own.sl (Pg.sized _) (by omega)).less (Nat.zero_le _), hx11.at_⟩
                    obtain ⟨A7, c7, w7, hrun7, hP7, hg7, hc7⟩ := Pn.app (WE.alloc (.cells #[.slice (some ⟨x, 0, none⟩) (4 + q + 2) c6] 33)) W4.heap.size k (.slice A9 k c9) T9 ((hP9.below hb11).below hb6) (unhide hre).1 (some ⟨x, 0, none⟩, c6, ps') ⟨WE.heap.size, 0, none⟩ (by rw [hcl]; exact cell_new1 _ _ _) (hrE.below hb6)
                      ⟨fun a ha => by cases ha; exact ⟨by show x < _; rw [World.size_alloc]; omega, fun e => by have h9 : x = gq := hgq2 _ e.symm; omega⟩, fun p hp a ha e => (hx11.ap p hp a ha).1 (hgq2 _ e.symm)⟩ (by omega) (by rw [World.size_alloc]; omega) 27
                    have hb7 : Below W4.heap.size W4 w7 := below_grown ((hb.trans (hb11.mono hz)).trans (hb6.mono (by omega))) hg7 (by rw [World.size_alloc]; omega) (fun j e => (hP9.1.lt j e).1)
                    have hre7 := hide ((unhide hre).app (r := (some ⟨x, 0, none⟩, c6, ps')) (unhide hE).1)
                    subst hWE
                    (try simp only [World.size_alloc, World.size_setCell] at hrun7)
                    clear hP9 hre hx11 hb11 hzE hb6 hcl hxw hrE hg7 hE
                    go_wp2_with (at_builtin; refine wpList_step (fun K hK => step_append_ex (o := ⟨some 116, _, _, _, _, _⟩) (.tmp 113) (.tmp 115) 27 rfl (by rfl) ?_); (with_reducible refine app_ex hrun7 ?_ (hK _ _ ?_)); rfl)
                    go_roundw
                    case rel => exact ⟨k + 1, A7, c7, _, by omega, by go_num, rfl, hc7, hre7, hP7, hb7⟩
                    case measure => simp [intOf]; omega
                · have hjdI : ¬ (j : Int) < 6 + (q : Int) := by omega
                  have hjdB : decide ((j : Int) < 6 + (q : Int)) = false := by simp; omega
                  obtain ⟨WE, hWE⟩ : ∃ WE, WE = wc := ⟨_, rfl⟩
                  rw [← hWE] at hx11 hb11
                  have hzE := hb11.size
                  have hb6 := (Below.refl WE.heap.size WE).alloc (Nat.le_refl _) (.cells #[.slice (some ⟨x, 0, none⟩) (4 + q + 2) c6] 33)
                  have hcl : PR.cell ((some ⟨x, 0, none⟩, c6, ps') : PR) = .slice (some ⟨x, 0, none⟩) (4 + q + 2) c6 := by rw [PR.cell, ← hx11.len]
                  have hxw : x < WE.heap.size := (hx11.own.lt x rfl).2
                  have hrE : PrOk WE (some ⟨x, 0, none⟩, c6, ps') := ⟨by show List.length _ ≤ c6; rw [← hx11.len]; exact hx11.hc, by show List.length _ ≤ 1000; rw [← hx11.len]; exact hx11.le, hx11.i64, (hx11.own.sl (Pg.sized _) (by omega)).less (Nat.zero_le _), hx11.at_⟩
                  obtain ⟨A7, c7, w7, hrun7, hP7, hg7, hc7⟩ := Pn.app (WE.alloc (.cells #[.slice (some ⟨x, 0, none⟩) (4 + q + 2) c6] 33)) W4.heap.size k (.slice A9 k c9) T9 ((hP9.below hb11).below hb6) (unhide hre).1 (some ⟨x, 0, none⟩, c6, ps') ⟨WE.heap.size, 0, none⟩ (by rw [hcl]; exact cell_new1 _ _ _) (hrE.below hb6)
                    ⟨fun a ha => by cases ha; exact ⟨by show x < _; rw [World.size_alloc]; omega, fun e => by have h9 : x = gq := hgq2 _ e.symm; omega⟩, fun p hp a ha e => (hx11.ap p hp a ha).1 (hgq2 _ e.symm)⟩ (by omega) (by rw [World.size_alloc]; omega) 27
                  have hb7 : Below W4.heap.size W4 w7 := below_grown ((hb.trans (hb11.mono hz)).trans (hb6.mono (by omega))) hg7 (by rw [World.size_alloc]; omega) (fun j e => (hP9.1.lt j e).1)
                  have hre7 := hide ((unhide hre).app (r := (some ⟨x, 0, none⟩, c6, ps')) (unhide hE).1)
                  subst hWE
                  (try simp only [World.size_alloc, World.size_setCell] at hrun7)
                  clear hP9 hre hx11 hb11 hzE hb6 hcl hxw hrE hg7 hE
                  go_wp2_with (at_builtin; refine wpList_step (fun K hK => step_append_ex (o := ⟨some 116, _, _, _, _, _⟩) (.tmp 113) (.tmp 115) 27 rfl (by rfl) ?_); (with_reducible refine app_ex hrun7 ?_ (hK _ _ ?_)); rfl)
                  go_roundw
                  case rel => exact ⟨k + 1, A7, c7, _, by omega, by go_num, rfl, hc7, hre7, hP7, hb7⟩
                  case measure => simp [intOf]; omega
      · obtain rfl : k = 2 + N' := by omega
        have hkNI : ¬ ((2 + N' : Nat) : Int) < 2 + (N' : Int) := by omega
        have hlk := look_pn 3 A9 c9 (2 + N') W4.heap.size T9 wr hP9 (unhide hre).1.symm (by omega) hkc
        obtain ⟨hL0, hL1⟩ := (unhide hre).look (by omega)
        rw [← unhide hKk] at hL1
        have hlast := (unhide hre).last (by omega)
        obtain ⟨⟨st2, rows2⟩, hlp2⟩ : ∃ r, r = lookP 3 T9 := ⟨_, rfl⟩
        have hW9 : (lookP 3 T9).2.length ≤ 2 + N' := lookP_le (by rw [hlast]; omega) _ (by rw [hlast]; omega)
        rw [← hlp2] at hL0 hL1 hlk hW9
        simp only at hL0 hL1
        obtain ⟨W, hW⟩ : ∃ W, W = rows2.length := ⟨_, rfl⟩
        unfold LkA at hlk
        simp only at hlk
        rw [← hW] at hlk
        have hW9' : W ≤ 9 := by rw [hW]; simp only at hW9; omega
        have hKs : Kn ≤ 9 := by rw [unhide hKk]; omega
        have hW0 : 0 < G → W = 0 := fun h => by rw [hW, hL0 h]; rfl
        have hG0 : 0 < W → G = 0 := fun h => by
          cases hg0 : G with
          | zero => rfl
          | succ m => have := hW0 (by omega); omega
        clear hP9 hre hlp2 hL0 hW9 hlast
        replace hL1 := hide hL1
        replace hW := hide hW
        go_wp2_with fail
        (with_reducible refine hlk.mono ?_)
        rintro e w11 ⟨⟨A11, c11, T5, rfl, hc11, hT5, hR11⟩, hb11⟩
        clear hlk
        obtain ⟨W12, hW12⟩ : ∃ W12, W12 = w11.alloc (Obj.cells #[.int .i64 st2, .slice A11 W c11] 31) := ⟨_, rfl⟩
        obtain ⟨P25, hP25⟩ : ∃ P25, P25 = w11.heap.size := ⟨_, rfl⟩
        have hb1112 : Below w11.heap.size w11 W12 := by rw [hW12]; exact (Below.refl _ _).alloc (Nat.le_refl _) _
        have g25 : W12.heap[P25]? = some (.cells #[.int .i64 st2, .slice A11 W c11] 31 (0, 0)) := by rw [hW12, hP25]; exact heap_alloc_new _ _
        have hb4w : Below W4.heap.size W4 w11 := hb.trans (hb11.mono hz)
        have hb412 : Below W4.heap.size W4 W12 := hb4w.trans (hb1112.mono hb4w.size)
        have g3 : W12.heap[P3]? = some (.cells #[.int .i64 st, .slice A3 Kn c3] 31 (0, 0)) := (hb412.block P3 hP3W).trans (unhide f4)
        have u25 : W12.cell? ⟨P25, 1, none⟩ = some (.slice A11 W c11) := by simp [World.cell?, g25]
        have u3 : W12.cell? ⟨P3, 1, none⟩ = some (.slice A3 Kn c3) := by simp [World.cell?, g3]
        have hR12 := hR11.below hb1112
        have hR4' := hR5.below hb412
        have hs5' : Sl W12 0 W12.heap.size 3 A11 (T5.map RowD.arr) := (hR12.1.sl (RowD.sized _) (by omega)).less (Nat.zero_le _)
        have hs4r : Sl W12 0 W12.heap.size 3 A3 (T4.map RowD.arr) := (hR4'.1.sl (RowD.sized _) (by omega)).less (Nat.zero_le _)
        have ho5 : ∀ t ∈ T5, RowOk W12 0 t := fun t ht => (hR12.2 t ht).1.less (Nat.zero_le _)
        have ho4 : ∀ t ∈ T4, RowOk W12 0 t := fun t ht => (hR4'.2 t ht).1.less (Nat.zero_le _)
        have hT4' : T4.map RowD.pl = (List.range Kn).map fun (j : Nat) => ((wrote es (4 + q) (2 + N') j).1, (j : Int), (wrote es (4 + q) (2 + N') j).2) := (unhide hT4).trans (unhide hk2)
        have hin : ∀ i (h : i < T5.length), ∃ t ∈ T4, t.pl = (T5[i]).pl := fun i h => by
          have h1 : (T5[i]).pl ∈ rows2 := by rw [← hT5]; exact List.mem_map.2 ⟨_, List.getElem_mem h, rfl⟩
          have h2 := (unhide hL1) (hG0 (by rw [unhide hW]; exact List.length_pos_of_mem h1)) _ h1
          rw [← hT4'] at h2
          obtain ⟨t, ht, e⟩ := List.mem_map.1 h2
          exact ⟨t, ht, e⟩
        have hl5 : T5.length = W := by have := congrArg List.length hT5; rw [List.length_map, ← unhide hW] at this; exact this
        have hl4 : T4.length = Kn := by have := congrArg List.length hT4'; simpa using this
        have hb12w : Below w.heap.size w W12 := hb14.trans (hb412.mono hb14.size)
        replace hl5 := hide hl5; replace hl4 := hide hl4; replace hin := hide hin
        clear hR11 hR12 hR4' hR5 hb4w hb1112 g25 g3 hb11 hP4 f4 hT4' hT5 hL1 hW
        replace hW12 := hide hW12
        replace hP25 := hide hP25
        have hd25 : (w11.alloc (Obj.cells #[.int .i64 st2, .slice A11 W c11] 31)).cell? ⟨w11.heap.size, 1, none⟩ = some (.slice A11 W c11) := by rw [← unhide hW12, ← unhide hP25]; exact u25
        by_cases hGz : 0 < G
        · have hW00 : W = 0 := hW0 hGz
          have hGB : decide ((0 : Int) < (G : Int)) = true := by simp; omega
          have hWB : decide ((0 : Int) < (W : Int)) = false := by simp; omega
          have hWI0 : ¬ (0 : Int) < (W : Int) := by omega
          clear hW0 hG0
          replace hW00 := hide hW00
          go_wp2_with fail
          rw [← unhide hW12, ← unhide hP25]
          clear hW12 hP25 hd25 hWB
          go_loopw [26] (fun s26 wl => s26 = .int .i64 0 ∧ Below W12.heap.size W12 wl) (fun _ _ => 0)
          case atStart => exact ⟨rfl, Below.refl _ _⟩
          case round =>
            rename World => wl
            obtain ⟨rfl, hbl⟩ := hrel
            have p1 := (hbl.cell (World.block_lt_of_cell? _ _ u25)).trans u25
            have hbF := hb12w.trans (hbl.mono hb12w.size)
            have hWI : ¬ (0 : Int) < W := by have := unhide hW00; omega
            go_wp2_with fail
            go_ret
            exact ⟨rfl, hbF⟩
        · have hGI : ¬ (0 : Int) < (G : Int) := by omega
          have hGB : decide ((0 : Int) < (G : Int)) = false := by simp; omega
          clear hW0 hG0
          go_wp2_with fail
          rw [← unhide hW12, ← unhide hP25]
          clear hW12 hP25 hd25
          go_loopw [26] (fun s26 wl => ∃ (i : Nat), i ≤ W ∧ s26 = .int .i64 i ∧ Below W12.heap.size W12 wl) (fun s26 _ => W - (intOf s26).toNat)
          case atStart => exact ⟨0, Nat.zero_le _, rfl, Below.refl _ _⟩
          case round =>
            rename World => wl
            obtain ⟨i, hi, rfl, hbl⟩ := hrel
            have hzl := hbl.size
            have p1 := (hbl.cell (World.block_lt_of_cell? _ _ u25)).trans u25
            have p2 := (hbl.cell (World.block_lt_of_cell? _ _ u3)).trans u3
            by_cases hiW : i < W
            · have hiWN : (i : Int) < W := by omega
              have hi0 : (0 : Int) ≤ i := by omega
              have hiT5 : i < T5.length := by rw [unhide hl5]; exact hiW
              obtain ⟨b1, o1, rfl, _, hb1l, hr1⟩ := hs5'.at_ (k := i) (by rw [List.length_map]; exact hiT5)
              simp only [List.getElem_map] at hr1
              have k1 := ho5 _ (List.getElem_mem hiT5)
              obtain ⟨tt, htt, hpp⟩ := (unhide hin) i hiT5
              generalize T5[i] = ti at hr1 k1 hpp
              obtain ⟨s1, t1, A13, c13, e13⟩ := ti
              obtain ⟨k1', hk1'⟩ : ∃ kk, kk = e13.length := ⟨_, rfl⟩
              have hany : T4.any (fun t => sameB s1 t1 t.pl.1 t.pl.2.1 e13 t.pl.2.2) = true := by
                rw [List.any_eq_true]
                refine ⟨tt, htt, ?_⟩
                rw [hpp]
                exact decide_eq_true ⟨rfl, rfl, rfl⟩
              clear htt hpp
              replace hany := hide hany
              replace hk1' := hide hk1'
              go_wp2_with fail
              go_loopw [27, 28] (fun s27 s28 wm => ∃ (j : Nat) (b : Bool), j ≤ Kn ∧ s28 = .int .i64 j ∧ s27 = .bool b ∧ Hid (b = (T4.take j).any (fun t => sameB s1 t1 t.pl.1 t.pl.2.1 e13 t.pl.2.2)) ∧ Below wl.heap.size wl wm) (fun _ s28 _ => Kn - (intOf s28).toNat)
              case atStart => exact ⟨0, false, Nat.zero_le _, rfl, rfl, hide rfl, Below.refl _ _⟩
              case round =>
                rename World => wm
                obtain ⟨j, b, hj, rfl, rfl, hbb, hbm⟩ := hrel
                have hzm := hbm.size
                have hbwm := hbl.trans (hbm.mono hzl)
                have p1m := (hbm.cell (World.block_lt_of_cell? _ _ p1)).trans p1
                have p2m := (hbm.cell (World.block_lt_of_cell? _ _ p2)).trans p2
                by_cases hjK : j < Kn
                · have hjKI : (j : Int) < Kn := by omega
                  have hj0 : (0 : Int) ≤ j := by omega
                  have hjT4 : j < T4.length := by rw [unhide hl4]; exact hjK
                  obtain ⟨b2, o2, rfl, _, hb2l, hr2⟩ := hs4r.at_ (k := j) (by rw [List.length_map]; exact hjT4)
                  simp only [List.getElem_map] at hr2
                  have k2 := ho4 _ (List.getElem_mem hjT4)
                  have hst := any_take (T := T4) (f := fun t => sameB s1 t1 t.pl.1 t.pl.2.1 e13 t.pl.2.2) hjT4
                  rw [← unhide hbb] at hst
                  generalize T4[j] = tj at hr2 k2 hst
                  obtain ⟨s2, t2, A14, c14, e14⟩ := tj
                  replace hst : (T4.take (j + 1)).any (fun t => sameB s1 t1 t.pl.1 t.pl.2.1 e13 t.pl.2.2) = (b || sameB s1 t1 s2 t2 e13 e14) := hst
                  obtain ⟨k2', hk2'⟩ : ∃ kk, kk = e14.length := ⟨_, rfl⟩
                  clear hbb
                  cases b with
                  | true =>
                    have hst2 : true = (T4.take (j + 1)).any (fun t => sameB s1 t1 t.pl.1 t.pl.2.1 e13 t.pl.2.2) := by rw [hst]; rfl
                    replace hst2 := hide hst2
                    clear hst hr2 k2
                    replace hk2' := hide hk2'
                    go_wp2_with fail
                    refine start_ (n := 15) (S := fun _ => True) (ds := []) #[false, false, false, false, false, false, false, false, false, false, false, false, false, false, false] (by kernel_rfl) rfl rfl (trivial) (fun hHeld => ?_)
                    refine pure_ (i := 0) (N := some 141) (v := ?_) (a' := ?_) #[true, false, false, false, false, false, false, false, false, false, false, false, false, false, false] rfl rfl (by kernel_rfl) (fun _ _ _ h => h) (Or.inl ⟨by rfl, ?_⟩) ?_ ?_
                    rotate_left
                    · intro w'
                      go_simp
                      with_reducible rfl
                    rotate_left
                    · simp only [Act.put, List.setIfInBounds_toArray, List.set_cons_zero, List.set_cons_succ, i64_w, i32_w]
                      rfl
                    refine pure_ (i := 1) (N := some 142) (v := ?_) (a' := ?_) #[true, true, false, false, false, false, false, false, false, false, false, false, false, false, false] rfl rfl (by kernel_rfl) (fun _ _ _ h => h) (Or.inl ⟨by rfl, ?_⟩) ?_ ?_
                    rotate_left
                    · intro w'
                      go_simp
                      with_reducible rfl
                    rotate_left
                    · simp only [Act.put, List.setIfInBounds_toArray, List.set_cons_zero, List.set_cons_succ, i64_w, i32_w]
                      rfl
                    refine pure_ (i := 2) (N := some 143) (v := undef) #[true, true, true, false, false, false, false, false, false, false, false, false, false, false, false] rfl rfl (by kernel_rfl) (fun _ _ _ h => h) (Or.inr ⟨by rfl, rfl⟩) (by simp only [Act.put, List.setIfInBounds_toArray, List.set_cons_zero, List.set_cons_succ, i64_w, i32_w]; rfl) ?_
                    refine pure_ (i := 3) (N := some 144) (v := undef) #[true, true, true, true, false, false, false, false, false, false, false, false, false, false, false] rfl rfl (by kernel_rfl) (fun _ _ _ h => h) (Or.inr ⟨by rfl, rfl⟩) (by simp only [Act.put, List.setIfInBounds_toArray, List.set_cons_zero, List.set_cons_succ, i64_w, i32_w]; rfl) ?_
                    refine pure_ (i := 4) (N := some 145) (v := undef) #[true, true, true, true, true, false, false, false, false, false, false, false, false, false, false] rfl rfl (by kernel_rfl) (fun _ _ _ h => h) (Or.inr ⟨by rfl, rfl⟩) (by simp only [Act.put, List.setIfInBounds_toArray, List.set_cons_zero, List.set_cons_succ, i64_w, i32_w]; rfl) ?_
                    refine pure_ (i := 5) (N := some 146) (v := undef) #[true, true, true, true, true, true, false, false, false, false, false, false, false, false, false] rfl rfl (by kernel_rfl) (fun _ _ _ h => h) (Or.inr ⟨by rfl, rfl⟩) (by simp only [Act.put, List.setIfInBounds_toArray, List.set_cons_zero, List.set_cons_succ, i64_w, i32_w]; rfl) ?_
                    refine pure_ (i := 6) (N := some 147) (v := undef) #[true, true, true, true, true, true, true, false, false, false, false, false, false, false, false] rfl rfl (by kernel_rfl) (fun _ _ _ h => h) (Or.inr ⟨by rfl, rfl⟩) (by simp only [Act.put, List.setIfInBounds_toArray, List.set_cons_zero, List.set_cons_succ, i64_w, i32_w]; rfl) ?_
                    refine pure_ (i := 7) (N := some 148) (v := undef) #[true, true, true, true, true, true, true, true, false, false, false, false, false, false, false] rfl rfl (by kernel_rfl) (fun _ _ _ h => h) (Or.inr ⟨by rfl, rfl⟩) (by simp only [Act.put, List.setIfInBounds_toArray, List.set_cons_zero, List.set_cons_succ, i64_w, i32_w]; rfl) ?_
                    refine pure_ (i := 8) (N := some 149) (v := undef) #[true, true, true, true, true, true, true, true, true, false, false, false, false, false, false] rfl rfl (by kernel_rfl) (fun _ _ _ h => h) (Or.inr ⟨by rfl, rfl⟩) (by simp only [Act.put, List.setIfInBounds_toArray, List.set_cons_zero, List.set_cons_succ, i64_w, i32_w]; rfl) ?_
                    refine pure_ (i := 9) (N := some 150) (v := undef) #[true, true, true, true, true, true, true, true, true, true, false, false, false, false, false] rfl rfl (by kernel_rfl) (fun _ _ _ h => h) (Or.inr ⟨by rfl, rfl⟩) (by simp only [Act.put, List.setIfInBounds_toArray, List.set_cons_zero, List.set_cons_succ, i64_w, i32_w]; rfl) ?_
                    refine pure_ (i := 10) (N := some 151) (v := undef) #[true, true, true, true, true, true, true, true, true, true, true, false, false, false, false] rfl rfl (by kernel_rfl) (fun _ _ _ h => h) (Or.inr ⟨by rfl, rfl⟩) (by simp only [Act.put, List.setIfInBounds_toArray, List.set_cons_zero, List.set_cons_succ, i64_w, i32_w]; rfl) ?_
                    refine pure_ (i := 11) (N := some 152) (v := undef) #[true, true, true, true, true, true, true, true, true, true, true, true, false, false, false] rfl rfl (by kernel_rfl) (fun _ _ _ h => h) (Or.inr ⟨by rfl, rfl⟩) (by simp only [Act.put, List.setIfInBounds_toArray, List.set_cons_zero, List.set_cons_succ, i64_w, i32_w]; rfl) ?_
                    refine pure_ (i := 12) (N := some 153) (v := undef) #[true, true, true, true, true, true, true, true, true, true, true, true, true, false, false] rfl rfl (by kernel_rfl) (fun _ _ _ h => h) (Or.inr ⟨by rfl, rfl⟩) (by simp only [Act.put, List.setIfInBounds_toArray, List.set_cons_zero, List.set_cons_succ, i64_w, i32_w]; rfl) ?_
                    refine pure_ (i := 13) (N := some 154) (v := ?_) (a' := ?_) #[true, true, true, true, true, true, true, true, true, true, true, true, true, true, false] rfl rfl (by kernel_rfl) (fun _ _ _ h => h) (Or.inl ⟨by rfl, ?_⟩) ?_ ?_
                    rotate_left
                    · intro w'
                      go_simp
                      with_reducible rfl
                    rotate_left
                    · simp only [Act.put, List.setIfInBounds_toArray, List.set_cons_zero, List.set_cons_succ, i64_w, i32_w]
                      rfl
                    refine pure_ (i := 14) (N := some 27) (v := ?_) (a' := ?_) #[true, true, true, true, true, true, true, true, true, true, true, true, true, true, true] rfl rfl (by kernel_rfl) (fun _ _ _ h => h) (Or.inl ⟨by rfl, ?_⟩) ?_ ?_
                    rotate_left
                    · intro w'
                      go_simp
                      with_reducible rfl
                    rotate_left
                    · simp only [Act.put, List.setIfInBounds_toArray, List.set_cons_zero, List.set_cons_succ, i64_w, i32_w]
                      rfl
                    refine done_ (by kernel_rfl) ?_
                    have hbm2 : Below wl.heap.size wl wm.drew := hbm.drew
                    go_wp2_with fail
                    go_roundw
                    case rel => exact ⟨j + 1, true, by omega, by go_num, rfl, hst2, hbm2⟩
                    case measure => simp [intOf]; omega
                  | false =>
                    have hsr := samerow_any s1 t1 s2 t2 A13 A14 c13 c14 k1' k2' e13 e14 wm.drew (unhide hk1') hk2' (by rw [unhide hk1']; exact k1.2.1) ((k1.2.2.2.below hbwm).more hbwm.size).drew ((k2.2.2.2.below hbwm).more hbwm.size).drew
                    obtain ⟨sb, hsb⟩ : ∃ sb, sb = sameB s1 t1 s2 t2 e13 e14 := ⟨_, rfl⟩
                    rw [← hsb] at hsr hst
                    have hst2 : sb = (T4.take (j + 1)).any (fun t => sameB s1 t1 t.pl.1 t.pl.2.1 e13 t.pl.2.2) := by rw [hst]; simp
                    replace hst2 := hide hst2
                    have qa := fun jj hjj => (hbwm.cell (p := ⟨b1, o1 + i * 3 + jj, none⟩) hb1l).trans (rd_cell hr1 jj hjj)
                    have ra := fun jj hjj => (hbwm.cell (p := ⟨b2, o2 + j * 3 + jj, none⟩) hb2l).trans (rd_cell hr2 jj hjj)
                    have keep0 : ∀ w', Below wm.heap.size wm w' → w'.cell? ⟨P25, 1, none⟩ = some (.slice (some ⟨b1, o1, none⟩) W c11) ∧ w'.cell? ⟨P3, 1, none⟩ = some (.slice (some ⟨b2, o2, none⟩) Kn c3) ∧ w'.cell? ⟨b1, o1 + i * 3, none⟩ = some (.int .i64 s1) ∧ w'.cell? ⟨b1, o1 + i * 3 + 1, none⟩ = some (.int .i64 t1) ∧ w'.cell? ⟨b1, o1 + i * 3 + 2, none⟩ = some (.slice A13 k1' c13) ∧ w'.cell? ⟨b2, o2 + j * 3, none⟩ = some (.int .i64 s2) ∧ w'.cell? ⟨b2, o2 + j * 3 + 1, none⟩ = some (.int .i64 t2) ∧ w'.cell? ⟨b2, o2 + j * 3 + 2, none⟩ = some (.slice A14 k2' c14) := by
                      intro w' hb'
                      have hx := fun (p : Addr) (v : Value) (h : wm.cell? p = some v) => (hb'.cell (World.block_lt_of_cell? _ _ h)).trans h
                      refine ⟨hx _ _ p1m, hx _ _ p2m, hx _ _ ?_, hx _ _ ?_, hx _ _ ?_, hx _ _ ?_, hx _ _ ?_, hx _ _ ?_⟩
                      · exact qa 0 (by omega)
                      · exact qa 1 (by omega)
                      · rw [unhide hk1']; exact qa 2 (by omega)
                      · exact ra 0 (by omega)
                      · exact ra 1 (by omega)
                      · rw [hk2']; exact ra 2 (by omega)
                    clear qa ra hr2 k2 hst hsb
                    replace hk2' := hide hk2'
                    replace hsr := hide hsr
                    go_wp2_with fail
                    refine start_ (n := 15) (S := fun w' => w'.cell? ⟨P25, 1, none⟩ = some (.slice (some ⟨b1, o1, none⟩) W c11) ∧ w'.cell? ⟨P3, 1, none⟩ = some (.slice (some ⟨b2, o2, none⟩) Kn c3) ∧ w'.cell? ⟨b1, o1 + i * 3, none⟩ = some (.int .i64 s1) ∧ w'.cell? ⟨b1, o1 + i * 3 + 1, none⟩ = some (.int .i64 t1) ∧ w'.cell? ⟨b1, o1 + i * 3 + 2, none⟩ = some (.slice A13 k1' c13) ∧ w'.cell? ⟨b2, o2 + j * 3, none⟩ = some (.int .i64 s2) ∧ w'.cell? ⟨b2, o2 + j * 3 + 1, none⟩ = some (.int .i64 t2) ∧ w'.cell? ⟨b2, o2 + j * 3 + 2, none⟩ = some (.slice A14 k2' c14)) (ds := []) #[false, false, false, false, false, false, false, false, false, false, false, false, false, false, false] (by kernel_rfl) rfl rfl (keep0 _ (Below.refl _ _).drew) (fun hHeld => ?_)
                    refine pure_ (i := 0) (N := some 141) (v := ?_) (a' := ?_) #[true, false, false, false, false, false, false, false, false, false, false, false, false, false, false] rfl rfl (by kernel_rfl) (fun _ _ _ h => h) (Or.inl ⟨by rfl, ?_⟩) ?_ ?_
                    rotate_left
                    · intro w'
                      go_simp
                      with_reducible rfl
                    rotate_left
                    · simp only [Act.put, List.setIfInBounds_toArray, List.set_cons_zero, List.set_cons_succ, i64_w, i32_w]
                      rfl
                    refine pure_ (i := 1) (N := some 142) (v := ?_) (a' := ?_) #[true, true, false, false, false, false, false, false, false, false, false, false, false, false, false] rfl rfl (by kernel_rfl) (fun _ _ _ h => h) (Or.inl ⟨by rfl, ?_⟩) ?_ ?_
                    rotate_left
                    · intro w'
                      go_simp
                      with_reducible rfl
                    rotate_left
                    · simp only [Act.put, List.setIfInBounds_toArray, List.set_cons_zero, List.set_cons_succ, i64_w, i32_w]
                      rfl
                    refine pure_ (i := 2) (N := some 143) (v := ?_) (a' := ?_) #[true, true, true, false, false, false, false, false, false, false, false, false, false, false, false] rfl rfl (by kernel_rfl) (fun _ _ _ h => h) (Or.inl ⟨by rfl, ?_⟩) ?_ ?_
                    rotate_left
                    · intro w'
                      go_simp
                      with_reducible rfl
                    rotate_left
                    · simp only [Act.put, List.setIfInBounds_toArray, List.set_cons_zero, List.set_cons_succ, i64_w, i32_w]
                      rfl
                    refine take_ (i := 3) (N := some 144) (v := ?_) (a' := ?_) #[true, true, true, true, false, false, false, false, false, false, false, false, false, false, false] rfl rfl (by kernel_rfl) (fun _ _ _ h => h) (Or.inl ⟨by rfl, ?_⟩) hHeld ?_ ?_
                    rotate_left
                    · intro w' hs_; obtain ⟨s0, s1, s2, s3, s4, s5, s6, s7⟩ := hs_
                      go_simp
                      with_reducible rfl
                    rotate_left
                    · simp only [Act.put, List.setIfInBounds_toArray, List.set_cons_zero, List.set_cons_succ, i64_w, i32_w]
                      rfl
                    refine pure_ (i := 4) (N := some 145) (v := ?_) (a' := ?_) #[true, true, true, true, true, false, false, false, false, false, false, false, false, false, false] rfl rfl (by kernel_rfl) (fun _ _ _ h => h) (Or.inl ⟨by rfl, ?_⟩) ?_ ?_
                    rotate_left
                    · intro w'
                      go_simp
                      with_reducible rfl
                    rotate_left
                    · simp only [Act.put, List.setIfInBounds_toArray, List.set_cons_zero, List.set_cons_succ, i64_w, i32_w]
                      rfl
                    refine pure_ (i := 5) (N := some 146) (v := ?_) (a' := ?_) #[true, true, true, true, true, true, false, false, false, false, false, false, false, false, false] rfl rfl (by kernel_rfl) (fun _ _ _ h => h) (Or.inl ⟨by rfl, ?_⟩) ?_ ?_
                    rotate_left
                    · intro w'
                      go_simp
                      with_reducible rfl
                    rotate_left
                    · simp only [Act.put, List.setIfInBounds_toArray, List.set_cons_zero, List.set_cons_succ, i64_w, i32_w]
                      rfl
                    refine take_ (i := 6) (N := some 147) (v := ?_) (a' := ?_) #[true, true, true, true, true, true, true, false, false, false, false, false, false, false, false] rfl rfl (by kernel_rfl) (fun _ _ _ h => h) (Or.inl ⟨by rfl, ?_⟩) hHeld ?_ ?_
                    rotate_left
                    · intro w' hs_; obtain ⟨s0, s1, s2, s3, s4, s5, s6, s7⟩ := hs_
                      go_simp
                      with_reducible rfl
                    rotate_left
                    · simp only [Act.put, List.setIfInBounds_toArray, List.set_cons_zero, List.set_cons_succ, i64_w, i32_w]
                      rfl
                    refine pure_ (i := 7) (N := some 148) (v := ?_) (a' := ?_) #[true, true, true, true, true, true, true, true, false, false, false, false, false, false, false] rfl rfl (by kernel_rfl) (fun _ _ _ h => h) (Or.inl ⟨by rfl, ?_⟩) ?_ ?_
                    rotate_left
                    · intro w'
                      go_simp
                      with_reducible rfl
                    rotate_left
                    · simp only [Act.put, List.setIfInBounds_toArray, List.set_cons_zero, List.set_cons_succ, i64_w, i32_w]
                      rfl
                    refine take_ (i := 8) (N := some 149) (v := ?_) (a' := ?_) #[true, true, true, true, true, true, true, true, true, false, false, false, false, false, false] rfl rfl (by kernel_rfl) (fun _ _ _ h => h) (Or.inl ⟨by rfl, ?_⟩) hHeld ?_ ?_
                    rotate_left
                    · intro w' hs_; obtain ⟨s0, s1, s2, s3, s4, s5, s6, s7⟩ := hs_
                      go_simp
                      with_reducible rfl
                    rotate_left
                    · simp only [Act.put, List.setIfInBounds_toArray, List.set_cons_zero, List.set_cons_succ, i64_w, i32_w]
                      rfl
                    refine pure_ (i := 9) (N := some 150) (v := ?_) (a' := ?_) #[true, true, true, true, true, true, true, true, true, true, false, false, false, false, false] rfl rfl (by kernel_rfl) (fun _ _ _ h => h) (Or.inl ⟨by rfl, ?_⟩) ?_ ?_
                    rotate_left
                    · intro w'
                      go_simp
                      with_reducible rfl
                    rotate_left
                    · simp only [Act.put, List.setIfInBounds_toArray, List.set_cons_zero, List.set_cons_succ, i64_w, i32_w]
                      rfl
                    refine pure_ (i := 10) (N := some 151) (v := ?_) (a' := ?_) #[true, true, true, true, true, true, true, true, true, true, true, false, false, false, false] rfl rfl (by kernel_rfl) (fun _ _ _ h => h) (Or.inl ⟨by rfl, ?_⟩) ?_ ?_
                    rotate_left
                    · intro w'
                      go_simp
                      with_reducible rfl
                    rotate_left
                    · simp only [Act.put, List.setIfInBounds_toArray, List.set_cons_zero, List.set_cons_succ, i64_w, i32_w]
                      rfl
                    refine take_ (i := 11) (N := some 152) (v := ?_) (a' := ?_) #[true, true, true, true, true, true, true, true, true, true, true, true, false, false, false] rfl rfl (by kernel_rfl) (fun _ _ _ h => h) (Or.inl ⟨by rfl, ?_⟩) hHeld ?_ ?_
                    rotate_left
                    · intro w' hs_; obtain ⟨s0, s1, s2, s3, s4, s5, s6, s7⟩ := hs_
                      go_simp
                      with_reducible rfl
                    rotate_left
                    · simp only [Act.put, List.setIfInBounds_toArray, List.set_cons_zero, List.set_cons_succ, i64_w, i32_w]
                      rfl
                    refine one_ (i := 12) (N := some 153) #[true, true, true, true, true, true, true, true, true, true, true, true, true, false, false] rfl rfl (by kernel_rfl) (by decide) (fun K hK => ?_)
                    refine goes_ Try.func14 (by kernel_rfl) rfl #[.agg #[.int .i64 s1, .int .i64 t1, .slice A13 k1' c13], .agg #[.int .i64 s2, .int .i64 t2, .slice A14 k2' c14]] (by rfl) rfl rfl (by (try simp only [List.map_toArray, List.map_cons, List.map_nil]); first | done | rfl) ?_
                    with_reducible refine (unhide hsr).mono ?_
                    rintro e w6 ⟨rfl, hb6⟩
                    have k6 : Below wm.heap.size wm w6 := Below.trans (Below.drew (Below.refl wm.heap.size wm)) hb6
                    refine ⟨_, rfl, hK.out _ _ (keep0 _ k6) (fun hHeld => ?_)⟩
                    clear hK K
                    refine norm_ (a' := ?_) ?_ ?_
                    rotate_left
                    · show Act.put _ (some 153) _ = _
                      simp only [Act.put, List.setIfInBounds_toArray, List.set_cons_zero, List.set_cons_succ, i64_w, i32_w]
                      rfl
                    refine pure_ (i := 13) (N := some 154) (v := ?_) (a' := ?_) #[true, true, true, true, true, true, true, true, true, true, true, true, true, true, false] rfl rfl (by kernel_rfl) (fun _ _ _ h => h) (Or.inl ⟨by rfl, ?_⟩) ?_ ?_
                    rotate_left
                    · intro w'
                      go_simp
                      with_reducible rfl
                    rotate_left
                    · simp only [Act.put, List.setIfInBounds_toArray, List.set_cons_zero, List.set_cons_succ, i64_w, i32_w]
                      rfl
                    refine pure_ (i := 14) (N := some 27) (v := ?_) (a' := ?_) #[true, true, true, true, true, true, true, true, true, true, true, true, true, true, true] rfl rfl (by kernel_rfl) (fun _ _ _ h => h) (Or.inl ⟨by rfl, ?_⟩) ?_ ?_
                    rotate_left
                    · intro w'
                      go_simp
                      with_reducible rfl
                    rotate_left
                    · simp only [Act.put, List.setIfInBounds_toArray, List.set_cons_zero, List.set_cons_succ, i64_w, i32_w]
                      rfl
                    refine done_ (by kernel_rfl) ?_
                    have hbm2 : Below wl.heap.size wl w6 := hbm.trans (k6.mono hzm)
                    clear keep0
                    go_wp2_with fail
                    go_roundw
                    case rel => exact ⟨j + 1, sb, by omega, by go_num, rfl, hst2, hbm2⟩
                    case measure => simp [intOf]; omega
                · obtain rfl : j = Kn := by omega
                  have hbt : b = true := by rw [unhide hbb, List.take_of_length_le (by rw [unhide hl4]; exact Nat.le_refl _)]; exact unhide hany
                  subst hbt
                  have hjKI : ¬ (j : Int) < j := by omega
                  clear hbb
                  go_wp2_with fail
                  go_roundw
                  case rel => exact ⟨i + 1, by omega, by go_num, hbwm⟩
                  case measure => simp [intOf]; omega
            · obtain rfl : i = W := by omega
              have hiWN : ¬ (i : Int) < i := by omega
              have hbF := hb12w.trans (hbl.mono hb12w.size)
              go_wp2_with fail
              go_ret
              exact ⟨rfl, hbF⟩
  · have hlf : decide ((30 : Int) < (n : Int)) = true ∨ (decide ((30 : Int) < (n : Int)) = false ∧ decide ((60 : Int) < (R : Int)) = true) := by
      by_cases h : n ≤ 30
      · right; constructor
        · simp; omega
        · simp; omega
      · left; simp; omega
    rcases hlf with hlf | ⟨hlf, hlf2⟩
    · go_wp2_with fail
      go_ret
      exact ⟨rfl, hb1⟩
    · go_wp2_with fail
      go_ret
      exact ⟨rfl, hb1⟩
end Go.Proofs.Ytodbmgafejclmaa.Base
