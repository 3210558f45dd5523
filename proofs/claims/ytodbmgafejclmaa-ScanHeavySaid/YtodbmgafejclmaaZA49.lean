/-
  Parts of a proof, laid together by a program of mine (pack.py): Hv.
-/
import Derived.Test.YtodbmgafejclmaaZA48
namespace Go.Proofs.Ytodbmgafejclmaa.Base
open Go.RowKit Go.Maps Go.Proofs.YtodbmgafejclmaaW.PrintWords Go.Proofs.YtodbmgafejclmaaW.PrintLast
set_option linter.unusedSimpArgs false
set_option linter.unusedVariables false
attribute [local go_sem] fld_super0 fld_super1
theorem wrap_small (k : Nat) (h : k ≤ 1000000) : wrap64 (k : Int) = (k : Int) := IntWalk.wrap64_in _ ⟨by omega, by omega⟩
/-- the copy, as it is, is put in its place -/
theorem Xr.step0 {w w5 : World} {bp g N cp n c5 k : Nat} {A : Option Addr} {T : List PR} {ps : List Pg} (hP : Pn w bp (.slice (some ⟨g, 0, none⟩) N cp) T) (hN : N = T.length) (hb5 : Below w.heap.size w w5) (hx : Xr w5 w.heap.size g A n c5 ps) (hk : k < N) (hn : 0 < n) (B : Nat) (hB : B ≤ w.heap.size) (hBg : B ≤ g) :
    (∃ v, w5.cell? ⟨g, k, none⟩ = some v) ∧ w5.frozen? ⟨g, k, none⟩ = false ∧ Pn (w5.setCell ⟨g, k, none⟩ (.slice A n c5)) bp (.slice (some ⟨g, 0, none⟩) N cp) (T.set k (A, c5, ps)) ∧ Below B w (w5.setCell ⟨g, k, none⟩ (.slice A n c5)) := by
  obtain ⟨h1, h2, h3⟩ := hx.put (hP.below hb5) hN hk hn
  exact ⟨h2, h3, h1, (hb5.mono hB).setCell hBg _⟩
/-- rows that were written, of each one page bad at most; from the i-th on none is -/
structure MadeH (m : Nat) (R : Nat) (es : List Ent) (i : Nat) (T : List PR) : Prop where
  len : T.length = 6
  row : ∀ j, j < 6 → j < R → ∃ P : List Int, P.length ≤ 1 ∧ (i ≤ j → P = []) ∧ (∃ lim, Pc.Ok lim (m + 2) P) ∧ (pgsOf T j).map qOf = pagesQ (fullE (10 + (j : Int)) 1 j (mkS es m j (decide (j + 1 = 6))) m) P
  blank : ∀ j, j < 6 → R ≤ j → (pgsOf T j).map qOf = List.replicate (m + 2) (0, [])
theorem MadeH.of {m R : Nat} {es : List Ent} {T : List PR} (h : Made 1 m R 6 es T) : MadeH m R es 0 T :=
  ⟨h.1, fun j hj hR => ⟨[], Nat.zero_le _, fun _ => rfl, ok_nil _, h.row hj (by omega)⟩, fun j hj hR => by rw [h.2 j hj, mkRow, if_pos (by omega)]⟩
theorem MadeH.look {m R i : Nat} {es : List Ent} {T : List PR} (h : MadeH m R es i T) (hm : 4 ≤ m ∧ m ≤ 6) (hwf : ∀ e ∈ es, e.Wf) (hR : 1 ≤ R ∧ R ≤ 6) : lookP 1 T = (if R = 6 then 2 else 1, (List.range (R - 1)).map fun (j : Nat) => ((wrote es m 6 j).1, (j : Int), (wrote es m 6 j).2)) := by
  have hdec : ∀ j, j < R → (decP 1 j (pgsOf T j) 1) = (0, some (wrote es m 6 j)) ∧ stB (pgsOf T j) = true := fun j hj => by
    obtain ⟨P, p1, _, p3, p4⟩ := h.row j (by omega) hj
    refine ⟨?_, stB_row p4 (fun x hx => by obtain ⟨lim, o⟩ := p3; exact (o.2.1 x hx).1) (by rw [full_pos _ _ _ _ _ (mkS_ok hwf m _ _).1]; omega)⟩
    rw [(dec_wrote hm (by omega) hwf (by omega) p3 p4).2, if_neg (by omega)]
  have hl : lastS T = ((R - 1 : Nat) : Int) := by
    unfold lastS
    refine lastN_at (by rw [h.len]; omega) (hdec _ (by omega)).2 (fun j h1 h2 => ?_)
    rw [h.len] at h2
    exact stB_blank (h.blank j h2 (by omega))
  rw [lookP_st (by omega), hl]
  have hs : soundR 1 T (((R - 1 : Nat) : Int)).toNat = (List.range (R - 1)).map fun (j : Nat) => ((wrote es m 6 j).1, (j : Int), (wrote es m 6 j).2) := by
    rw [Int.toNat_natCast]
    exact soundR_all (fun j hj => by rw [(hdec j (by omega)).1])
  rw [hs, h.len]
  congr 1
  by_cases h6 : R = 6
  · rw [if_pos h6, if_pos]
    show (decP 1 ((5 : Nat) : Int) (pgsOf T 5) 1).1 = 0
    rw [(hdec 5 (by omega)).1]
  · rw [if_neg h6, if_neg]
    exact decP_none (a := ((5 : Nat) : Int)) (decP_zero (zs_blank (h.blank 5 (by omega) (by omega)) (by omega)))
theorem MadeH.put {m R i : Nat} {es : List Ent} {T : List PR} (h : MadeH m R es i T) (hi : i < R) (hR : R ≤ 6) {r : PR} (hr : r.2.2 = pgsOf T i) : MadeH m R es (i + 1) (T.set i r) := by
  have hT : i < T.length := by rw [h.len]; omega
  refine ⟨by rw [List.length_set]; exact h.len, fun j hj hjR => ?_, fun j hj hjR => ?_⟩
  · rw [pgsOf_set r hT, hr]
    obtain ⟨P, p1, p2, p3, p4⟩ := h.row j hj hjR
    refine ⟨P, p1, fun _ => p2 (by omega), p3, ?_⟩
    by_cases e : j = i
    · subst e; rw [if_pos rfl]; exact p4
    · rw [if_neg e]; exact p4
  · rw [pgsOf_set r hT, if_neg (by omega)]
    exact h.blank j hj hjR
theorem MadeH.bad {m R i : Nat} {es : List Ent} {T : List PR} (h : MadeH m R es i T) (hi : i < R) (hR : R ≤ 6) {r : PR} {b : Nat} (hb : b < m + 2) (hr : r.2.2 = (pgsOf T i).set b badPg) : MadeH m R es (i + 1) (T.set i r) := by
  have hT : i < T.length := by rw [h.len]; omega
  refine ⟨by rw [List.length_set]; exact h.len, fun j hj hjR => ?_, fun j hj hjR => ?_⟩
  · rw [pgsOf_set r hT, hr]
    obtain ⟨P, p1, p2, p3, p4⟩ := h.row j hj hjR
    by_cases e : j = i
    · subst e
      rw [if_pos rfl]
      obtain rfl := p2 (Nat.le_refl _)
      exact ⟨[(b : Int)], Nat.le_refl _, fun h => by omega, ok_one hb, pages_set p4 b⟩
    · rw [if_neg e]
      exact ⟨P, p1, fun _ => p2 (by omega), p3, p4⟩
  · rw [pgsOf_set r hT, if_neg (by omega)]
    exact h.blank j hj hjR
set_option maxRecDepth 100000 in
set_option maxHeartbeats 1000000 in
theorem heavy_walk (a0 a1 : Int) (A A3 : Option Addr) (c c3 n M : Nat) (es : List Ent) (lost : List Int) (w : World) (h0 : I64 a0) (h1 : I64 a1) (hn : n = es.length) (hc : n ≤ c) (hm : c ≤ maxLen) (hs : Sl w 0 w.heap.size 19 A (es.map Ent.arr)) (hwf : ∀ e ∈ es, e.Wf)
    (hM : M = lost.length) (hc3 : M ≤ c3) (hm3 : c3 ≤ maxLen) (hs3 : Sl w 0 w.heap.size 1 A3 (In lost)) (hw3 : ∀ x ∈ lost, I64 x) :
    Calls Try.prog 6 #[.int .i64 a0, .int .i64 a1, .slice A n c, .slice A3 M c3] w fun e w' => e = .returned (.bool true) ∧ Below w.heap.size w w' := by
  obtain ⟨q, hq, hw0⟩ := w13_lt a0 3 h0 (by omega) (by omega)
  obtain ⟨k, hk, hw1⟩ := w13_lt a1 6 h1 (by omega) (by omega)
  have hn' := hide hn
  clear hn
  have hM' := hide hM
  clear hM
  have hMl : M ≤ maxLen := Nat.le_trans hc3 hm3
  unfold maxLen at hMl
  go_enter Try.func6, Try.ntmps6
  go_wp2_with fail
  refine (known13 _).mono ?_
  rintro e w1 ⟨rfl, hb1⟩
  by_cases hl : n ≤ 30
  · have hlI : (n : Int) ≤ 30 := by omega
    go_wp2_with fail
    refine (hw0 _).mono ?_
    rintro e wq ⟨rfl, rfl⟩
    go_wp2_with fail
    refine (hw1 _).mono ?_
    rintro e wq ⟨rfl, rfl⟩
    have hmk := make_any 1 (6 + (q : Int)) (1 + (k : Int)) 6 (4 + q) 6 n c A es w1 (by omega) (by omega) (by omega) (by omega) (by omega) ⟨by omega, by omega⟩ (unhide hn') hl hc ((hs.below hb1).more hb1.size) hwf
    go_wp2_with fail
    (with_reducible refine hmk.mono ?_)
    rintro x w2 ⟨A2, c2, T, rfl, hc2, hT, hq2, hP2, hb2⟩
    have hmade : MadeH (4 + q) (1 + k) es 0 T := MadeH.of ⟨hT, fun j hj => by rw [hq2 j hj]; push_cast; rfl⟩
    have hlk := look_pn 1 A2 c2 6 w1.heap.size T w2 hP2 hT.symm (by omega) hc2
    rw [hmade.look (by omega) hwf (by omega)] at hlk
    have hb12 := hb1.trans (hb2.mono hb1.size)
    obtain ⟨st, hst⟩ : ∃ st : Int, st = if 1 + k = 6 then 2 else 1 := ⟨_, rfl⟩
    obtain ⟨rows, hrows⟩ : ∃ rows : List RowP, rows = (List.range (1 + k - 1)).map fun (j : Nat) => ((wrote es (4 + q) 6 j).1, (j : Int), (wrote es (4 + q) 6 j).2) := ⟨_, rfl⟩
    have hrl : rows.length = k := by rw [hrows, List.length_map, List.length_range]; omega
    rw [← hst, ← hrows] at hlk
    unfold LkA at hlk
    rw [hrl] at hlk
    simp only at hlk
    clear hmk hq2 hw0 hw1 hT
    replace hst := hide hst
    replace hrows := hide hrows
    replace hrl := hide hrl
    replace hmade := hide hmade
    go_wp2_with fail
    (with_reducible refine hlk.mono ?_)
    rintro x w3 ⟨⟨A4, c4, T4, rfl, hc4, hT4, hR4⟩, hb3⟩
    clear hlk
    have hb13 := hb12.trans (hb3.mono hb12.size)
    have hP3 := hP2.below hb3
    obtain ⟨g, rfl, hg1, hg3, hjunk⟩ := hP2.some_of (by omega)
    clear hjunk hP2
    obtain ⟨W4, hW4⟩ : ∃ W4, W4 = w3.alloc (Obj.cells #[.int .i64 st, .slice A4 k c4] 31) := ⟨_, rfl⟩
    have hb34 : Below w3.heap.size w3 W4 := by rw [hW4]; exact (Below.refl _ _).alloc (Nat.le_refl _) _
    have f4 : W4.heap[w3.heap.size]? = some (.cells #[.int .i64 st, .slice A4 k c4] 31 (0, 0)) := by rw [hW4]; exact heap_alloc_new _ _
    have hb14 := hb13.trans (hb34.mono hb13.size)
    have hP4 := hP3.below hb34
    have hR5 := hR4.below hb34
    have hgw : w.heap.size ≤ g := by have := hb1.size; omega
    have hz23 := hb3.size
    have hz34 := hb34.size
    obtain ⟨P3, hP3e⟩ : ∃ P3, P3 = w3.heap.size := ⟨_, rfl⟩
    obtain ⟨B2, hB2e⟩ : ∃ B2, B2 = w2.heap.size := ⟨_, rfl⟩
    obtain ⟨B1, hB1e⟩ : ∃ B1, B1 = w1.heap.size := ⟨_, rfl⟩
    rw [← hP3e] at f4 hz34 hz23
    rw [← hB2e] at hR5 hg3 hz23
    rw [← hB1e] at hP4 hg1
    have hP3W : P3 < W4.heap.size := (Array.getElem?_eq_some_iff.1 f4).1
    replace f4 := hide f4
    replace hT4 := hide hT4
    go_wp2_with fail
    rw [← hW4, ← hP3e]
    clear hW4 hP3 hR4 hb34 hz34
    replace hP3e := hide hP3e
    replace hB2e := hide hB2e
    replace hB1e := hide hB1e
    go_loopw [13] (fun s13 wr => ∃ (i : Nat) (T' : List PR), i ≤ 1 + k ∧ s13 = .int .i64 i ∧ Hid (MadeH (4 + q) (1 + k) es i T') ∧ Pn wr B1 (.slice (some ⟨g, 0, none⟩) 6 c2) T' ∧ Rn wr B2 (.slice A4 k c4) T4 ∧ Below w.heap.size w wr ∧ Hid (wr.heap[P3]? = some (.cells #[.int .i64 st, .slice A4 k c4] 31 (0, 0)))) (fun s13 _ => 1 + k - (intOf s13).toNat)
    case atStart => exact ⟨0, T, by omega, rfl, hmade, hP4, hR5, hb14, f4⟩
    case round =>
      clear hmade hP4 hR5 hb14 f4 hP3W
      obtain ⟨i, T', hi, rfl, hmd, hP, hR, hb, f4⟩ := hrel
      have hz := hb.size
      have hP3W : P3 < wr.heap.size := (Array.getElem?_eq_some_iff.1 (unhide f4)).1
      by_cases hik : i < 1 + k ∧ i < M
      · obtain ⟨hik, hiM⟩ := hik
        have hiI : (i : Int) < 1 + (k : Int) := by omega
        have hiMI : (i : Int) < M := by omega
        have hi0 : (0 : Int) ≤ i := by omega
        have hi6 : (i : Int) < 6 := by omega
        have hil : i < lost.length := by rw [← unhide hM']; exact hiM
        obtain ⟨b3, o3, rfl, _, hb3l, hr3⟩ := hs3.at_ (k := i) (by rw [In.len]; exact hil)
        have hc3' : wr.cell? ⟨b3, o3 + i, none⟩ = some (.int .i64 lost[i]) := by
          have := rd_cell ((rd_below hb hb3l _ _).trans hr3) 0 (by omega)
          rw [Nat.mul_one, Nat.add_zero] at this
          rw [this]
          simp [In]
        have hx := hw3 _ (List.getElem_mem hil)
        obtain ⟨x, hxe⟩ : ∃ x, x = lost[i] := ⟨_, rfl⟩
        rw [← hxe] at hc3' hx
        obtain ⟨j, hj, hwj⟩ := w13_lt x (6 + (q : Int) + 1) hx (by omega) (by omega)
        have hTl : T'.length = 6 := (unhide hmd).len
        have hiT : i < T'.length := by omega
        obtain ⟨hr4, hap4⟩ := hP.row hiT
        have hci : wr.cell? ⟨g, i, none⟩ = some (T'.getD i zPR).cell := hP.cell hiT
        have hgz : g < wr.heap.size := (hP.1.lt g rfl).2
        have hpl : 4 + q + 2 = (T'.getD i zPR).2.2.length := by
          obtain ⟨P, _, _, _, hPe⟩ := (unhide hmd).row i (by omega) hik
          have := congrArg List.length hPe
          rw [List.length_map, pagesQ_len, full_pos _ _ _ _ _ (mkS_ok hwf _ _ _).1] at this
          exact this.symm
        obtain ⟨A5, c5, w5, hrun5, hx5, hb5⟩ := Xr.copy wr g (T'.getD i zPR) (4 + q + 2) hpl hr4 hap4 hgz 33
        have hce : (T'.getD i zPR).cell = .slice (T'.getD i zPR).1 (4 + q + 2) (T'.getD i zPR).2.1 := by rw [PR.cell, ← hpl]
        rw [hce] at hci
        have hpg : (T'.getD i zPR).2.2 = pgsOf T' i := rfl
        obtain ⟨⟨rA, rc, rp⟩, hrr⟩ : ∃ r, r = T'.getD i zPR := ⟨_, rfl⟩
        rw [← hrr] at hci hrun5 hx5 hpg
        simp only at hci hrun5 hx5 hpg
        have hc35 : w5.cell? ⟨b3, o3 + i, none⟩ = some (.int .i64 x) := (hb5.cell (World.block_lt_of_cell? _ _ hc3')).trans hc3'
        clear hr4 hap4 hpl hce hrr hr3 hxe hx hc3'
        replace hpg := hide hpg
        replace hTl := hide hTl
        go_wp2_with (at_builtin; refine wpList_step (fun K hK => step_append_ex (o := ⟨some 49, _, _, _, _, _⟩) (.tmp 44) (.tmp 48) 33 rfl (by rfl) ?_); (with_reducible refine app_ex hrun5 ?_ (hK _ _ ?_)); rfl)
        refine (hwj _).mono ?_
        rintro e wq ⟨rfl, rfl⟩
        clear hrun5 hwj
        by_cases hjd : j < 4 + q + 2
        · have hjdI : (j : Int) < 6 + (q : Int) := by omega
          have hjdI2 : (j : Int) < ((4 + q + 2 : Nat) : Int) := by omega
          obtain ⟨x5, rfl, hx51, hx52⟩ := hx5.some_of (by omega)
          obtain ⟨hx6, ⟨v1, n1⟩, ⟨v2, n2⟩, f1, f2, ⟨v3, n3⟩, f3, hxg, hP7, hb7⟩ := Xr.step hP (unhide hTl).symm hb5 hx5 hx51 (k := i) (by omega) hjd badPg (PgOk.bad _ 1) ⟨by decide, by decide⟩ (fun a ha => by cases ha) w.heap.size hz hgw
          have hR7 := (hR.below ((hb5.setCell (p := ⟨x5, j * 2, none⟩) hx51 (.int .i64 1)).setCell (p := ⟨x5, j * 2 + 1, none⟩) hx51 (.slice none 0 0))).setCell (p := ⟨g, i, none⟩) hg3 (.slice (some ⟨x5, 0, none⟩) (4 + q + 2) c5)
          have g4 : (((w5.setCell ⟨x5, j * 2, none⟩ (.int .i64 1)).setCell ⟨x5, j * 2 + 1, none⟩ (.slice none 0 0)).setCell ⟨g, i, none⟩ (.slice (some ⟨x5, 0, none⟩) (4 + q + 2) c5)).heap[P3]? = some (.cells #[.int .i64 st, .slice A4 k c4] 31 (0, 0)) :=
            (Below.heap_setCell _ _ _ _ (by show P3 ≠ g; omega)).trans ((Below.heap_setCell _ _ _ _ (by show P3 ≠ x5; omega)).trans ((Below.heap_setCell _ _ _ _ (by show P3 ≠ x5; omega)).trans ((hb5.block P3 hP3W).trans (unhide f4))))
          have hmd7 := (unhide hmd).bad (r := (some ⟨x5, 0, none⟩, c5, rp.set j badPg)) hik (by omega) hjd (by rw [← unhide hpg])
          have hb77 := hb.trans hb7
          have hP77 : Pn (((w5.setCell ⟨x5, j * 2, none⟩ (.int .i64 1)).setCell ⟨x5, j * 2 + 1, none⟩ (.slice none 0 0)).setCell ⟨g, i, none⟩ (.slice (some ⟨x5, 0, none⟩) (4 + q + 2) c5)) B1 (.slice (some ⟨g, 0, none⟩) 6 c2) (T'.set i (some ⟨x5, 0, none⟩, c5, rp.set j badPg)) := hP7
          have hb78 : Below w.heap.size w (((w5.setCell ⟨x5, j * 2, none⟩ (.int .i64 1)).setCell ⟨x5, j * 2 + 1, none⟩ (.slice none 0 0)).setCell ⟨g, i, none⟩ (.slice (some ⟨x5, 0, none⟩) (4 + q + 2) c5)) := hb77
          clear hx6 hx5 hb5 hP7 hb7 hb77 hP hR hmd hb f4 hpg hTl
          replace g4 := hide g4
          replace hmd7 := hide hmd7
          go_wp2_with fail
          go_roundw
          case rel => exact ⟨i + 1, _, by omega, by go_num, hmd7, hP77, hR7, hb78, g4⟩
          case measure => simp [intOf]; omega
        · have hjdI : ¬ (j : Int) < 6 + (q : Int) := by omega
          obtain ⟨⟨v3, n3⟩, f3, hP7, hb7⟩ := Xr.step0 hP (unhide hTl).symm hb5 hx5 (k := i) (by omega) (by omega) w.heap.size hz hgw
          have hR7 := (hR.below hb5).setCell (p := ⟨g, i, none⟩) hg3 (.slice A5 (4 + q + 2) c5)
          have g4 : (w5.setCell ⟨g, i, none⟩ (.slice A5 (4 + q + 2) c5)).heap[P3]? = some (.cells #[.int .i64 st, .slice A4 k c4] 31 (0, 0)) :=
            (Below.heap_setCell _ _ _ _ (by show P3 ≠ g; omega)).trans ((hb5.block P3 hP3W).trans (unhide f4))
          have hmd7 := (unhide hmd).put (r := (A5, c5, rp)) hik (by omega) (unhide hpg)
          have hb78 := hb.trans hb7
          clear hx5 hb5 hb7 hP hR hmd hb f4 hpg hTl
          replace g4 := hide g4
          replace hmd7 := hide hmd7
          go_wp2_with fail
          go_roundw
          case rel => exact ⟨i + 1, _, by omega, by go_num, hmd7, hP7, hR7, hb78, g4⟩
          case measure => simp [intOf]; omega
      · have hTl : T'.length = 6 := (unhide hmd).len
        have hlk9 := look_pn 1 (some ⟨g, 0, none⟩) c2 6 B1 T' wr.drew (hP.below (Below.refl _ _).drew) hTl.symm (by omega) hc2
        rw [(unhide hmd).look (by omega) hwf (by omega), ← unhide hst, ← unhide hrows] at hlk9
        unfold LkA at hlk9
        simp only at hlk9
        rw [unhide hrl] at hlk9
        have c0 : wr.cell? ⟨P3, 0, none⟩ = some (.int .i64 st) := by simp [World.cell?, unhide f4]
        have c1 : wr.cell? ⟨P3, 1, none⟩ = some (.slice A4 k c4) := by simp [World.cell?, unhide f4]
        have keep0 : ∀ w', Below wr.heap.size wr w' → w'.cell? ⟨P3, 0, none⟩ = some (.int .i64 st) ∧ w'.cell? ⟨P3, 1, none⟩ = some (.slice A4 k c4) := fun w' hb' => ⟨(hb'.cell (World.block_lt_of_cell? _ _ c0)).trans c0, (hb'.cell (World.block_lt_of_cell? _ _ c1)).trans c1⟩
        have hkk : 1 + (k : Int) - 1 = (k : Int) := by omega
        clear hTl c0 c1
        replace hlk9 := hide hlk9
        by_cases hi1 : i < 1 + k
        · have hi1I : (i : Int) < 1 + (k : Int) := by omega
          have hi2I : ¬ (i : Int) < M := by omega
          clear hik
          go_wp2_with fail
          -- LAST{
          refine start_ (n := 13) (S := fun w' => w'.cell? ⟨P3, 0, none⟩ = some (.int .i64 st) ∧ w'.cell? ⟨P3, 1, none⟩ = some (.slice A4 k c4)) (ds := []) #[false, false, false, false, false, false, false, false, false, false, false, false, false] (by kernel_rfl) rfl rfl (keep0 _ (Below.refl _ _).drew) (fun hHeld => ?_)
          refine pure_ (i := 0) (N := some 68) (v := ?_) (a' := ?_) #[true, false, false, false, false, false, false, false, false, false, false, false, false] rfl rfl (by kernel_rfl) (fun _ _ _ h => h) (Or.inl ⟨by rfl, ?_⟩) ?_ ?_
          rotate_left
          · intro w'
            go_simp
            with_reducible rfl
          rotate_left
          · simp only [Act.put, List.setIfInBounds_toArray, List.set_cons_zero, List.set_cons_succ, i64_w, i32_w]
            rfl
          refine take_ (i := 2) (N := some 70) (v := ?_) (a' := ?_) #[true, false, true, false, false, false, false, false, false, false, false, false, false] rfl rfl (by kernel_rfl) (fun _ _ _ h => h) (Or.inl ⟨by rfl, ?_⟩) hHeld ?_ ?_
          rotate_left
          · intro w' hs_; obtain ⟨s0, s1⟩ := hs_
            go_simp
            with_reducible rfl
          rotate_left
          · simp only [Act.put, List.setIfInBounds_toArray, List.set_cons_zero, List.set_cons_succ, i64_w, i32_w]
            rfl
          refine one_ (i := 1) (N := some 69) #[true, true, true, false, false, false, false, false, false, false, false, false, false] rfl rfl (by kernel_rfl) (by decide) (fun K hK => ?_)
          refine goes_ Try.func12 (by kernel_rfl) rfl #[.int .i64 1, .slice (some ⟨g, 0, none⟩) 6 c2] (by rfl) rfl rfl (by (try simp only [List.map_toArray, List.map_cons, List.map_nil]); first | done | rfl) ?_
          with_reducible refine (unhide hlk9).mono ?_
          rintro e w6 ⟨⟨A9, c9, T9, rfl, hc9, hT9, hR9⟩, hb6⟩
          have k6 : Below wr.heap.size wr w6 := Below.trans (Below.drew (Below.refl wr.heap.size wr)) hb6
          refine ⟨_, rfl, hK.out _ _ (keep0 _ k6) (fun hHeld => ?_)⟩
          clear hK K
          refine norm_ (a' := ?_) ?_ ?_
          rotate_left
          · show Act.put _ (some 69) _ = _
            simp only [Act.put, List.setIfInBounds_toArray, List.set_cons_zero, List.set_cons_succ, i64_w, i32_w]
            rfl
          refine one_ (i := 3) (N := some 71) #[true, true, true, true, false, false, false, false, false, false, false, false, false] rfl rfl (by kernel_rfl) (by decide) (fun K hK => ?_)
          have hR46 := hR.below k6
          have hsm := same13_eq st A9 A4 c9 c4 k T9 T4 w6 (by have := congrArg List.length hT9; rw [List.length_map, unhide hrl] at this; exact this.symm) (hT9.trans (unhide hT4).symm) (by omega) ((hR9.1.sl (RowD.sized _) (by omega)).less (Nat.zero_le _)) ((hR46.1.sl (RowD.sized _) (by omega)).less (Nat.zero_le _)) (fun t ht => (hR9.2 t ht).1.less (Nat.zero_le _)) (fun t ht => (hR46.2 t ht).1.less (Nat.zero_le _))
          replace hsm := hide hsm
          clear hR46 hR9 hT9
          refine goes_ Try.func15 (by kernel_rfl) rfl #[.agg #[.int .i64 st, .slice A9 k c9], .agg #[.int .i64 st, .slice A4 k c4]] (by rfl) rfl rfl (by (try simp only [List.map_toArray, List.map_cons, List.map_nil]); first | done | rfl) ?_
          with_reducible refine (unhide hsm).mono ?_
          rintro e w7 ⟨rfl, hb7⟩
          have k7 : Below wr.heap.size wr w7 := k6.trans (hb7.mono k6.size)
          refine ⟨_, rfl, hK.out _ _ (keep0 _ k7) (fun hHeld => ?_)⟩
          clear hK K hsm
          refine norm_ (a' := ?_) ?_ ?_
          rotate_left
          · show Act.put _ (some 71) _ = _
            simp only [Act.put, List.setIfInBounds_toArray, List.set_cons_zero, List.set_cons_succ, i64_w, i32_w]
            rfl
          refine pure_ (i := 4) (N := some 72) (v := ?_) (a' := ?_) #[true, true, true, true, true, false, false, false, false, false, false, false, false] rfl rfl (by kernel_rfl) (fun _ _ _ h => h) (Or.inl ⟨by rfl, ?_⟩) ?_ ?_
          rotate_left
          · intro w'
            go_simp
            with_reducible rfl
          rotate_left
          · simp only [Act.put, List.setIfInBounds_toArray, List.set_cons_zero, List.set_cons_succ, i64_w, i32_w]
            rfl
          refine pure_ (i := 5) (N := some 73) (v := ?_) (a' := ?_) #[true, true, true, true, true, true, false, false, false, false, false, false, false] rfl rfl (by kernel_rfl) (fun _ _ _ h => h) (Or.inl ⟨by rfl, ?_⟩) ?_ ?_
          rotate_left
          · intro w'
            go_simp
            with_reducible rfl
          rotate_left
          · simp only [Act.put, List.setIfInBounds_toArray, List.set_cons_zero, List.set_cons_succ, i64_w, i32_w]
            rfl
          refine take_ (i := 6) (N := some 74) (v := ?_) (a' := ?_) #[true, true, true, true, true, true, true, false, false, false, false, false, false] rfl rfl (by kernel_rfl) (fun _ _ _ h => h) (Or.inl ⟨by rfl, ?_⟩) hHeld ?_ ?_
          rotate_left
          · intro w' hs_; obtain ⟨s0, s1⟩ := hs_
            go_simp
            with_reducible rfl
          rotate_left
          · simp only [Act.put, List.setIfInBounds_toArray, List.set_cons_zero, List.set_cons_succ, i64_w, i32_w]
            rfl
          refine pure_ (i := 7) (N := some 75) (v := ?_) (a' := ?_) #[true, true, true, true, true, true, true, true, false, false, false, false, false] rfl rfl (by kernel_rfl) (fun _ _ _ h => h) (Or.inl ⟨by rfl, ?_⟩) ?_ ?_
          rotate_left
          · intro w'
            go_simp
            with_reducible rfl
          rotate_left
          · simp only [Act.put, List.setIfInBounds_toArray, List.set_cons_zero, List.set_cons_succ, i64_w, i32_w]
            rfl
          refine pure_ (i := 8) (N := some 76) (v := ?_) (a' := ?_) #[true, true, true, true, true, true, true, true, true, false, false, false, false] rfl rfl (by kernel_rfl) (fun _ _ _ h => h) (Or.inl ⟨by rfl, ?_⟩) ?_ ?_
          rotate_left
          · intro w'
            go_simp
            with_reducible rfl
          rotate_left
          · simp only [Act.put, List.setIfInBounds_toArray, List.set_cons_zero, List.set_cons_succ, i64_w, i32_w]
            rfl
          refine pure_ (i := 9) (N := some 77) (v := ?_) (a' := ?_) #[true, true, true, true, true, true, true, true, true, true, false, false, false] rfl rfl (by kernel_rfl) (fun _ _ _ h => h) (Or.inl ⟨by rfl, ?_⟩) ?_ ?_
          rotate_left
          · intro w'
            go_simp
            with_reducible rfl
          rotate_left
          · simp only [Act.put, List.setIfInBounds_toArray, List.set_cons_zero, List.set_cons_succ, i64_w, i32_w]
            rfl
          refine pure_ (i := 10) (N := some 78) (v := ?_) (a' := ?_) #[true, true, true, true, true, true, true, true, true, true, true, false, false] rfl rfl (by kernel_rfl) (fun _ _ _ h => h) (Or.inl ⟨by rfl, ?_⟩) ?_ ?_
          rotate_left
          · intro w'
            go_simp
            with_reducible rfl
          rotate_left
          · simp only [Act.put, List.setIfInBounds_toArray, List.set_cons_zero, List.set_cons_succ, i64_w, i32_w]
            rfl
          refine pure_ (i := 11) (N := some 79) (v := ?_) (a' := ?_) #[true, true, true, true, true, true, true, true, true, true, true, true, false] rfl rfl (by kernel_rfl) (fun _ _ _ h => h) (Or.inl ⟨by rfl, ?_⟩) ?_ ?_
          rotate_left
          · intro w'
            go_simp
            with_reducible rfl
          rotate_left
          · simp only [Act.put, List.setIfInBounds_toArray, List.set_cons_zero, List.set_cons_succ, i64_w, i32_w]
            rfl
          refine pure_ (i := 12) (N := some 8) (v := ?_) (a' := ?_) #[true, true, true, true, true, true, true, true, true, true, true, true, true] rfl rfl (by kernel_rfl) (fun _ _ _ h => h) (Or.inl ⟨by rfl, ?_⟩) ?_ ?_
          rotate_left
          · intro w'
            go_simp
            with_reducible rfl
          rotate_left
          · simp only [Act.put, List.setIfInBounds_toArray, List.set_cons_zero, List.set_cons_succ, i64_w, i32_w]
            rfl
          refine done_ (by kernel_rfl) ?_
          -- }LAST
          have hbF := hb.trans (k7.mono hz)
          clear keep0 hlk9
          go_wp2_with fail
          go_ret
          exact ⟨by rw [wrap_small k (by omega)]; simp, hbF⟩
        · have hi1I : ¬ (i : Int) < 1 + (k : Int) := by omega
          clear hik
          go_wp2_with fail
          -- LAST{
          refine start_ (n := 13) (S := fun w' => w'.cell? ⟨P3, 0, none⟩ = some (.int .i64 st) ∧ w'.cell? ⟨P3, 1, none⟩ = some (.slice A4 k c4)) (ds := []) #[false, false, false, false, false, false, false, false, false, false, false, false, false] (by kernel_rfl) rfl rfl (keep0 _ (Below.refl _ _).drew) (fun hHeld => ?_)
          refine pure_ (i := 0) (N := some 68) (v := ?_) (a' := ?_) #[true, false, false, false, false, false, false, false, false, false, false, false, false] rfl rfl (by kernel_rfl) (fun _ _ _ h => h) (Or.inl ⟨by rfl, ?_⟩) ?_ ?_
          rotate_left
          · intro w'
            go_simp
            with_reducible rfl
          rotate_left
          · simp only [Act.put, List.setIfInBounds_toArray, List.set_cons_zero, List.set_cons_succ, i64_w, i32_w]
            rfl
          refine take_ (i := 2) (N := some 70) (v := ?_) (a' := ?_) #[true, false, true, false, false, false, false, false, false, false, false, false, false] rfl rfl (by kernel_rfl) (fun _ _ _ h => h) (Or.inl ⟨by rfl, ?_⟩) hHeld ?_ ?_
          rotate_left
          · intro w' hs_; obtain ⟨s0, s1⟩ := hs_
            go_simp
            with_reducible rfl
          rotate_left
          · simp only [Act.put, List.setIfInBounds_toArray, List.set_cons_zero, List.set_cons_succ, i64_w, i32_w]
            rfl
          refine one_ (i := 1) (N := some 69) #[true, true, true, false, false, false, false, false, false, false, false, false, false] rfl rfl (by kernel_rfl) (by decide) (fun K hK => ?_)
          refine goes_ Try.func12 (by kernel_rfl) rfl #[.int .i64 1, .slice (some ⟨g, 0, none⟩) 6 c2] (by rfl) rfl rfl (by (try simp only [List.map_toArray, List.map_cons, List.map_nil]); first | done | rfl) ?_
          with_reducible refine (unhide hlk9).mono ?_
          rintro e w6 ⟨⟨A9, c9, T9, rfl, hc9, hT9, hR9⟩, hb6⟩
          have k6 : Below wr.heap.size wr w6 := Below.trans (Below.drew (Below.refl wr.heap.size wr)) hb6
          refine ⟨_, rfl, hK.out _ _ (keep0 _ k6) (fun hHeld => ?_)⟩
          clear hK K
          refine norm_ (a' := ?_) ?_ ?_
          rotate_left
          · show Act.put _ (some 69) _ = _
            simp only [Act.put, List.setIfInBounds_toArray, List.set_cons_zero, List.set_cons_succ, i64_w, i32_w]
            rfl
          refine one_ (i := 3) (N := some 71) #[true, true, true, true, false, false, false, false, false, false, false, false, false] rfl rfl (by kernel_rfl) (by decide) (fun K hK => ?_)
          have hR46 := hR.below k6
          have hsm := same13_eq st A9 A4 c9 c4 k T9 T4 w6 (by have := congrArg List.length hT9; rw [List.length_map, unhide hrl] at this; exact this.symm) (hT9.trans (unhide hT4).symm) (by omega) ((hR9.1.sl (RowD.sized _) (by omega)).less (Nat.zero_le _)) ((hR46.1.sl (RowD.sized _) (by omega)).less (Nat.zero_le _)) (fun t ht => (hR9.2 t ht).1.less (Nat.zero_le _)) (fun t ht => (hR46.2 t ht).1.less (Nat.zero_le _))
          replace hsm := hide hsm
          clear hR46 hR9 hT9
          refine goes_ Try.func15 (by kernel_rfl) rfl #[.agg #[.int .i64 st, .slice A9 k c9], .agg #[.int .i64 st, .slice A4 k c4]] (by rfl) rfl rfl (by (try simp only [List.map_toArray, List.map_cons, List.map_nil]); first | done | rfl) ?_
          with_reducible refine (unhide hsm).mono ?_
          rintro e w7 ⟨rfl, hb7⟩
          have k7 : Below wr.heap.size wr w7 := k6.trans (hb7.mono k6.size)
          refine ⟨_, rfl, hK.out _ _ (keep0 _ k7) (fun hHeld => ?_)⟩
          clear hK K hsm
          refine norm_ (a' := ?_) ?_ ?_
          rotate_left
          · show Act.put _ (some 71) _ = _
            simp only [Act.put, List.setIfInBounds_toArray, List.set_cons_zero, List.set_cons_succ, i64_w, i32_w]
            rfl
          refine pure_ (i := 4) (N := some 72) (v := ?_) (a' := ?_) #[true, true, true, true, true, false, false, false, false, false, false, false, false] rfl rfl (by kernel_rfl) (fun _ _ _ h => h) (Or.inl ⟨by rfl, ?_⟩) ?_ ?_
          rotate_left
          · intro w'
            go_simp
            with_reducible rfl
          rotate_left
          · simp only [Act.put, List.setIfInBounds_toArray, List.set_cons_zero, List.set_cons_succ, i64_w, i32_w]
            rfl
          refine pure_ (i := 5) (N := some 73) (v := ?_) (a' := ?_) #[true, true, true, true, true, true, false, false, false, false, false, false, false] rfl rfl (by kernel_rfl) (fun _ _ _ h => h) (Or.inl ⟨by rfl, ?_⟩) ?_ ?_
          rotate_left
          · intro w'
            go_simp
            with_reducible rfl
          rotate_left
          · simp only [Act.put, List.setIfInBounds_toArray, List.set_cons_zero, List.set_cons_succ, i64_w, i32_w]
            rfl
          refine take_ (i := 6) (N := some 74) (v := ?_) (a' := ?_) #[true, true, true, true, true, true, true, false, false, false, false, false, false] rfl rfl (by kernel_rfl) (fun _ _ _ h => h) (Or.inl ⟨by rfl, ?_⟩) hHeld ?_ ?_
          rotate_left
          · intro w' hs_; obtain ⟨s0, s1⟩ := hs_
            go_simp
            with_reducible rfl
          rotate_left
          · simp only [Act.put, List.setIfInBounds_toArray, List.set_cons_zero, List.set_cons_succ, i64_w, i32_w]
            rfl
          refine pure_ (i := 7) (N := some 75) (v := ?_) (a' := ?_) #[true, true, true, true, true, true, true, true, false, false, false, false, false] rfl rfl (by kernel_rfl) (fun _ _ _ h => h) (Or.inl ⟨by rfl, ?_⟩) ?_ ?_
          rotate_left
          · intro w'
            go_simp
            with_reducible rfl
          rotate_left
          · simp only [Act.put, List.setIfInBounds_toArray, List.set_cons_zero, List.set_cons_succ, i64_w, i32_w]
            rfl
          refine pure_ (i := 8) (N := some 76) (v := ?_) (a' := ?_) #[true, true, true, true, true, true, true, true, true, false, false, false, false] rfl rfl (by kernel_rfl) (fun _ _ _ h => h) (Or.inl ⟨by rfl, ?_⟩) ?_ ?_
          rotate_left
          · intro w'
            go_simp
            with_reducible rfl
          rotate_left
          · simp only [Act.put, List.setIfInBounds_toArray, List.set_cons_zero, List.set_cons_succ, i64_w, i32_w]
            rfl
          refine pure_ (i := 9) (N := some 77) (v := ?_) (a' := ?_) #[true, true, true, true, true, true, true, true, true, true, false, false, false] rfl rfl (by kernel_rfl) (fun _ _ _ h => h) (Or.inl ⟨by rfl, ?_⟩) ?_ ?_
          rotate_left
          · intro w'
            go_simp
            with_reducible rfl
          rotate_left
          · simp only [Act.put, List.setIfInBounds_toArray, List.set_cons_zero, List.set_cons_succ, i64_w, i32_w]
            rfl
          refine pure_ (i := 10) (N := some 78) (v := ?_) (a' := ?_) #[true, true, true, true, true, true, true, true, true, true, true, false, false] rfl rfl (by kernel_rfl) (fun _ _ _ h => h) (Or.inl ⟨by rfl, ?_⟩) ?_ ?_
          rotate_left
          · intro w'
            go_simp
            with_reducible rfl
          rotate_left
          · simp only [Act.put, List.setIfInBounds_toArray, List.set_cons_zero, List.set_cons_succ, i64_w, i32_w]
            rfl
          refine pure_ (i := 11) (N := some 79) (v := ?_) (a' := ?_) #[true, true, true, true, true, true, true, true, true, true, true, true, false] rfl rfl (by kernel_rfl) (fun _ _ _ h => h) (Or.inl ⟨by rfl, ?_⟩) ?_ ?_
          rotate_left
          · intro w'
            go_simp
            with_reducible rfl
          rotate_left
          · simp only [Act.put, List.setIfInBounds_toArray, List.set_cons_zero, List.set_cons_succ, i64_w, i32_w]
            rfl
          refine pure_ (i := 12) (N := some 8) (v := ?_) (a' := ?_) #[true, true, true, true, true, true, true, true, true, true, true, true, true] rfl rfl (by kernel_rfl) (fun _ _ _ h => h) (Or.inl ⟨by rfl, ?_⟩) ?_ ?_
          rotate_left
          · intro w'
            go_simp
            with_reducible rfl
          rotate_left
          · simp only [Act.put, List.setIfInBounds_toArray, List.set_cons_zero, List.set_cons_succ, i64_w, i32_w]
            rfl
          refine done_ (by kernel_rfl) ?_
          -- }LAST
          have hbF := hb.trans (k7.mono hz)
          clear keep0 hlk9
          go_wp2_with fail
          go_ret
          exact ⟨by rw [wrap_small k (by omega)]; simp, hbF⟩
  · have hlI : ¬ (n : Int) ≤ 30 := by omega
    go_wp2_with fail
    go_ret
    exact ⟨rfl, hb1⟩
end Go.Proofs.Ytodbmgafejclmaa.Base
