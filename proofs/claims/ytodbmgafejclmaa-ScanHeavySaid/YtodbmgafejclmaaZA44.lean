/-
  Parts of a proof, laid together by a program of mine (pack.py): Ts.
-/
import Derived.Test.YtodbmgafejclmaaZA43
namespace Go.Proofs.Ytodbmgafejclmaa.Base
open Go.RowKit Go.Maps Go.Proofs.YtodbmgafejclmaaW.PrintWords Go.Proofs.YtodbmgafejclmaaW.PrintLast
set_option linter.unusedSimpArgs false
set_option linter.unusedVariables false
attribute [local go_sem] fld_super0 fld_super1
/-- what a look at so many rows written tells -/
theorem look_made {m N : Nat} {k : Nat} {es : List Ent} {T : List PR} (h : Made 1 m k N es T) (hm : 4 ≤ m ∧ m ≤ 6) (hwf : ∀ e ∈ es, e.Wf) (hN : N ≤ 8) (hN1 : 1 ≤ N) (hk : k ≤ N) :
    (lookP 1 T).1 = (if k = 0 then 0 else if k = N then 2 else 1) ∧ (lookP 1 T).2 = (List.range (k - 1)).map fun (j : Nat) => ((wrote es m N j).1, (j : Int), (wrote es m N j).2) := by
  have hl := h.last hwf ⟨by omega, by omega⟩
  by_cases h0 : k = 0
  · subst h0
    have : lookP 1 T = (0, []) := by unfold lookP; rw [if_pos (by rw [hl]; omega)]
    rw [this]
    exact ⟨rfl, rfl⟩
  · rw [lookP_st (by omega), if_neg h0, hl]
    have hs : soundR 1 T ((k : Int) - 1).toNat = (List.range (k - 1)).map fun (j : Nat) => ((wrote es m N j).1, (j : Int), (wrote es m N j).2) := by
      rw [show ((k : Int) - 1).toNat = k - 1 from by omega]
      exact soundR_all (fun j hj => by rw [(h.dec hm (by omega) hwf hN (by omega) (by omega)).2])
    refine ⟨?_, hs⟩
    show (if (decP 1 ((T.length : Int) - 1) (pgsOf T (T.length - 1)) 1).1 = 0 then 2 else 1) = _
    rw [h.1, show ((N : Int) - 1) = ((N - 1 : Nat) : Int) from by omega]
    by_cases hkN : k = N
    · rw [if_pos hkN, (h.dec hm (by omega) hwf hN (by omega) (by omega)).2]
      rfl
    · rw [if_neg hkN, if_neg]
      exact decP_none (h.blank (by omega) (by omega))
/-- the last row has some bad pages -/
theorem look_bad {m N : Nat} {es : List Ent} {T : List PR} {ps : List Pg} {A : Option Addr} {c : Nat} {P : List Int} (h : Made 1 m N N es T) (hm : 4 ≤ m ∧ m ≤ 6) (hwf : ∀ e ∈ es, e.Wf) (hN : N ≤ 8) (hN1 : 1 ≤ N) (hP : ∃ lim, Pc.Ok lim (m + 2) P)
    (hps : ps.map qOf = pagesQ (fullE (10 + (N - 1 : Nat)) 1 (N - 1 : Nat) (mkS es m (N - 1) (decide (N - 1 + 1 = N))) m) P) : (lookP 1 (T.set (N - 1) ((A, c, ps) : PR))).1 = if (1 : Int) < P.length then 1 else 2 := by
  have hT : N - 1 < T.length := by rw [h.1]; omega
  obtain ⟨lim, hP'⟩ := hP
  have hd := dec_wrote (u := 1) hm (by omega) hwf (by omega) ⟨lim, hP'⟩ hps
  have hst : stB (pgsOf (T.set (N - 1) ((A, c, ps) : PR)) (N - 1)) = true := by
    rw [pgsOf_set _ hT, if_pos rfl]
    exact stB_row hps (fun x hx => (hP'.2.1 x hx).1) (by rw [full_pos _ _ _ _ _ (mkS_ok hwf m _ _).1]; omega)
  have hl : lastS (T.set (N - 1) ((A, c, ps) : PR)) = ((N - 1 : Nat) : Int) := by
    unfold lastS
    refine lastN_at (by rw [List.length_set]; exact hT) hst (fun j h1 h2 => ?_)
    rw [List.length_set, h.1] at h2
    omega
  rw [lookP_st (by omega)]
  show (if (decP 1 (((T.set (N - 1) ((A, c, ps) : PR)).length : Int) - 1) (pgsOf (T.set (N - 1) ((A, c, ps) : PR)) ((T.set (N - 1) ((A, c, ps) : PR)).length - 1)) 1).1 = 0 then 2 else 1) = _
  rw [List.length_set, h.1, show ((N : Int) - 1) = ((N - 1 : Nat) : Int) from by omega, pgsOf_set _ hT, if_pos rfl]
  show (if (decP 1 ((N - 1 : Nat) : Int) ps 1).1 = 0 then 2 else 1) = _
  rw [hd.2]
  by_cases h1 : (1 : Int) < P.length
  · rw [if_pos h1, if_pos h1]; rfl
  · rw [if_neg h1, if_neg h1]; rfl
theorem pages_set {ps : List Pg} {L : List (List Int)} {P : List Int} (h : ps.map qOf = pagesQ L P) (j : Nat) : (ps.set j badPg).map qOf = pagesQ L (P ++ [(j : Int)]) := by
  rw [List.map_set, h]
  unfold pagesQ
  rw [setQ_snoc, Int.toNat_natCast]
  rfl
theorem ok_one {m j : Nat} (h : j < m) : ∃ lim, Pc.Ok lim m [(j : Int)] := ⟨1, ⟨Nat.le_refl _, ⟨fun x hx => by rw [List.mem_singleton.1 hx]; omega, List.nodup_cons.2 ⟨List.not_mem_nil, List.nodup_nil⟩⟩⟩⟩
theorem ok_two {m i j : Nat} (h : i < m) (h2 : j < m) (hne : i ≠ j) : ∃ lim, Pc.Ok lim m [(i : Int), (j : Int)] := ⟨2, ⟨Nat.le_refl _, ⟨fun x hx => by
  rcases List.mem_cons.1 hx with h | h
  · rw [h]; omega
  · rw [List.mem_singleton.1 h]; omega, List.nodup_cons.2 ⟨fun e => by have := List.mem_singleton.1 e; omega, List.nodup_cons.2 ⟨List.not_mem_nil, List.nodup_nil⟩⟩⟩⟩⟩
theorem getD_set_eq {T : List PR} {k : Nat} (hk : k < T.length) (r : PR) : (T.set k r).getD k zPR = r := by
  rw [List.getD_eq_getElem?_getD, List.getElem?_set, if_pos rfl, if_pos hk]
  rfl
set_option maxRecDepth 100000 in
set_option maxHeartbeats 1000000 in
theorem states_walk (a0 a1 a2 a4 : Int) (A : Option Addr) (c n : Nat) (es : List Ent) (w : World) (h0 : I64 a0) (h1 : I64 a1) (h2 : I64 a2) (h4 : I64 a4) (hn : n = es.length) (hc : n ≤ c) (hm : c ≤ maxLen) (hs : Sl w 0 w.heap.size 19 A (es.map Ent.arr)) (hwf : ∀ e ∈ es, e.Wf) :
    Calls Try.prog 5 #[.int .i64 a0, .int .i64 a1, .int .i64 a2, .slice A n c, .int .i64 a4] w fun e w' => e = .returned (.bool true) ∧ Below w.heap.size w w' := by
  obtain ⟨q, hq, hw0⟩ := w13_lt a0 3 h0 (by omega) (by omega)
  obtain ⟨N', hN', hw2⟩ := w13_lt a2 8 h2 (by omega) (by omega)
  obtain ⟨k, hk, hw1⟩ := w13_lt a1 (1 + (N' : Int) + 1) h1 (by omega) (by omega)
  obtain ⟨j, hj, hw4⟩ := w13_lt a4 (6 + (q : Int)) h4 (by omega) (by omega)
  have hn' := hide hn
  clear hn
  go_enter Try.func5, Try.ntmps5
  go_wp2_with fail
  refine (known13 _).mono ?_
  rintro e w1 ⟨rfl, hb1⟩
  by_cases hl : n ≤ 30
  · have hlI : (n : Int) ≤ 30 := by omega
    go_wp2_with fail
    refine (hw0 _).mono ?_
    rintro e wq ⟨rfl, rfl⟩
    go_wp2_with fail
    refine (hw2 _).mono ?_
    rintro e wq ⟨rfl, rfl⟩
    go_wp2_with fail
    refine (hw1 _).mono ?_
    rintro e wq ⟨rfl, rfl⟩
    have hmk := make_any 1 (6 + (q : Int)) k (1 + (N' : Int)) (4 + q) (1 + N') n c A es w1 (by omega) (by omega) (by omega) (by omega) (by omega) ⟨by omega, by omega⟩ (unhide hn') hl hc ((hs.below hb1).more hb1.size) hwf
    go_wp2_with fail
    (with_reducible refine hmk.mono ?_)
    rintro x w2 ⟨A2, c2, T, rfl, hc2, hT, hq2, hP2, hb2⟩
    have hmade : Made 1 (4 + q) k (1 + N') es T := ⟨hT, hq2⟩
    obtain ⟨hk1, hk2⟩ := look_made (k := k) hmade (by omega) hwf (by omega) (by omega) (by omega)
    have hlk := look_pn 1 A2 c2 (1 + N') w1.heap.size T w2 hP2 hT.symm (by omega) hc2
    obtain ⟨⟨st, rows⟩, hlp⟩ : ∃ r, r = lookP 1 T := ⟨_, rfl⟩
    rw [← hlp] at hk1 hk2 hlk
    simp only at hk1 hk2
    obtain ⟨K1, hK1⟩ : ∃ K1, K1 = k - 1 := ⟨_, rfl⟩
    have hrl : rows.length = K1 := by rw [hk2, List.length_map, List.length_range, hK1]
    have hmx : max ((k : Int) - 1) 0 = (K1 : Int) := by omega
    have hlk2 : Calls Try.prog 12 #[.int .i64 1, .slice A2 (1 + N') c2] w2 fun x w' => (∃ A' c', x = .returned (.agg #[.int .i64 st, .slice A' K1 c'])) ∧ Below w2.heap.size w2 w' := by
      refine hlk.mono ?_
      rintro x w' ⟨⟨A', c', T', hx, _⟩, hb⟩
      simp only [hrl] at hx
      exact ⟨⟨A', c', hx⟩, hb⟩
    clear hlk hlp hrl hk2 hmk hw0 hw1 hw2
    replace hT := hide hT
    replace hmade := hide hmade
    replace hK1 := hide hK1
    clear hq2
    go_wp2_with fail
    (with_reducible refine hlk2.mono ?_)
    rintro x w3 ⟨⟨A3, c3, rfl⟩, hb3⟩
    clear hlk2
    have hb12 := hb1.trans (hb2.mono hb1.size)
    have hb13 := hb12.trans (hb3.mono hb12.size)
    by_cases hk0 : k = 0
    · have hB0 : ((k : Int) == 0) = true := by simp; omega
      have hB1 : ((k : Int) == 1 + (N' : Int)) = false := by simp; omega
      rw [if_pos hk0] at hk1
      replace hk0 := hide hk0
      subst hk1
      have hkN : (k : Int) < 1 + (N' : Int) := by have := unhide hk0; omega
      have hbF := hb13.alloc hb13.size (Obj.cells #[.int .i64 0, .slice A3 K1 c3] 31)
      go_wp2_with fail
      all_goals (go_ret; exact ⟨rfl, hbF⟩)
    · rw [if_neg hk0] at hk1
      have hB0 : ((k : Int) == 0) = false := by simp; omega
      by_cases hkN : k = 1 + N'
      · have hB1 : ((k : Int) == 1 + (N' : Int)) = true := by simp; omega
        have hkNI : ¬ (k : Int) < 1 + (N' : Int) := by omega
        rw [if_pos hkN] at hk1
        subst hk1
        replace hk0 := hide hk0
        replace hkN := hide hkN
        have hP3 := hP2.below hb3
        obtain ⟨W4, hW4⟩ : ∃ W4, W4 = w3.alloc (Obj.cells #[.int .i64 2, .slice A3 K1 c3] 31) := ⟨_, rfl⟩
        have hb4 : Below w3.heap.size w3 W4 := by rw [hW4]; exact (Below.refl _ _).alloc (Nat.le_refl _) _
        have hb14 := hb13.trans (hb4.mono hb13.size)
        have hP4 := hP3.below hb4
        obtain ⟨g, rfl, hg1, hg3, hjunk⟩ := hP3.some_of (by omega)
        have hg2 : g < W4.heap.size := Nat.lt_of_lt_of_le hg3 hb4.size
        clear hjunk hP2
        have hTl := unhide hT
        have hNT : N' < T.length := by omega
        obtain ⟨hr4, hap4⟩ := hP4.row hNT
        have hc4 : w3.cell? ⟨g, N', none⟩ = some (T.getD N' zPR).cell := hP3.cell hNT
        clear hP3
        have hrow := (unhide hmade).row (k := N') (by omega) (by have := unhide hkN; omega)
        have hdl := ((unhide hmade).dec (by omega) (by omega) hwf (by omega) (k := N') (by omega) (by have := unhide hkN; omega)).1
        have hpl : 4 + q + 2 = (T.getD N' zPR).2.2.length := hdl.symm
        obtain ⟨A5, c5, w5, hrun5, hx5, hb5⟩ := Xr.copy W4 g (T.getD N' zPR) (4 + q + 2) hpl hr4 hap4 hg2 33
        have hce : (T.getD N' zPR).cell = .slice (T.getD N' zPR).1 (4 + q + 2) (T.getD N' zPR).2.1 := by rw [PR.cell, ← hpl]
        rw [hce] at hc4
        have hrow' : (T.getD N' zPR).2.2.map qOf = pagesQ (fullE (10 + (N' : Nat)) 1 (N' : Nat) (mkS es (4 + q) N' (decide (N' + 1 = 1 + N'))) (4 + q)) [] := hrow
        obtain ⟨⟨rA, rc, rp⟩, hrr⟩ : ∃ r, r = T.getD N' zPR := ⟨_, rfl⟩
        rw [← hrr] at hc4 hrun5 hx5 hrow'
        simp only at hc4 hrun5 hx5 hrow'
        clear hr4 hap4 hrow hdl hpl hce hrr hTl
        subst hW4
        simp only [World.size_alloc] at hrun5
        go_wp2_with (at_builtin; refine wpList_step (fun K hK => step_append_ex (o := ⟨some 68, _, _, _, _, _⟩) (.tmp 62) (.tmp 67) 33 rfl (by rfl) ?_); (with_reducible refine app_ex hrun5 ?_ (hK _ _ ?_)); rfl)
        refine (hw4 _).mono ?_
        rintro e wq ⟨rfl, rfl⟩
        obtain ⟨x5, rfl, hx51, hx52⟩ := hx5.some_of (by omega)
        have hjq : j < 4 + q + 2 := by omega
        have hjqI : (j : Int) < ((4 + q + 2 : Nat) : Int) := by omega
        simp only [World.size_alloc] at hx51
        obtain ⟨hx6, ⟨v1, n1⟩, ⟨v2, n2⟩, f1, f2, ⟨v3, n3⟩, f3, hxg, hP7, hb7⟩ := Xr.step hP4 (unhide hT).symm hb5 hx5 (by rw [World.size_alloc]; exact hx51) (k := N') (by omega) hjq badPg (PgOk.bad _ 1) ⟨by decide, by decide⟩ (fun a ha => by cases ha) w.heap.size hb14.size (by have := hb1.size; omega)
        clear hx5 hb5 hP4 hx6
        change Pn (((w5.setCell ⟨x5, j * 2, none⟩ (.int .i64 1)).setCell ⟨x5, j * 2 + 1, none⟩ (.slice none 0 0)).setCell ⟨g, N', none⟩ (.slice (some ⟨x5, 0, none⟩) (4 + q + 2) c5)) w1.heap.size (.slice (some ⟨g, 0, none⟩) (1 + N') c2) (T.set N' (some ⟨x5, 0, none⟩, c5, rp.set j badPg)) at hP7
        change Below w.heap.size _ (((w5.setCell ⟨x5, j * 2, none⟩ (.int .i64 1)).setCell ⟨x5, j * 2 + 1, none⟩ (.slice none 0 0)).setCell ⟨g, N', none⟩ (.slice (some ⟨x5, 0, none⟩) (4 + q + 2) c5)) at hb7
        have hb7' := hb14.trans hb7
        have hset := pages_set hrow' j
        have hkN2 : k = 1 + N' := unhide hkN
        have hm1 := unhide hmade
        rw [show (k : Int) = ((1 + N' : Nat) : Int) from by omega] at hm1
        have hl1 := look_bad (A := some ⟨x5, 0, none⟩) (c := c5) (ps := rp.set j badPg) (P := [(j : Int)]) hm1 (by omega) hwf (by omega) (by omega) (ok_one (by omega)) (by rw [show 1 + N' - 1 = N' from by omega]; exact hset)
        rw [show 1 + N' - 1 = N' from by omega] at hl1
        have hlk7 := look_pn 1 (some ⟨g, 0, none⟩) c2 (1 + N') w1.heap.size _ _ hP7 (by rw [List.length_set]; exact (unhide hT).symm) (by omega) hc2
        rw [if_neg (by simp)] at hl1
        have hlk8 := hlk7.mono (R' := fun x w' => (∃ A' n' c', x = .returned (.agg #[.int .i64 2, .slice A' n' c'])) ∧ Below (((w5.setCell ⟨x5, j * 2, none⟩ (.int .i64 1)).setCell ⟨x5, j * 2 + 1, none⟩ (.slice none 0 0)).setCell ⟨g, N', none⟩ (.slice (some ⟨x5, 0, none⟩) (4 + q + 2) c5)).heap.size (((w5.setCell ⟨x5, j * 2, none⟩ (.int .i64 1)).setCell ⟨x5, j * 2 + 1, none⟩ (.slice none 0 0)).setCell ⟨g, N', none⟩ (.slice (some ⟨x5, 0, none⟩) (4 + q + 2) c5)) w') (fun x w' ⟨⟨A', c', T', hx, _⟩, hb⟩ => ⟨⟨A', _, c', by rw [hl1] at hx; exact hx⟩, hb⟩)
        clear hlk7 hl1
        replace hset := hide hset
        replace hrow' := hide hrow'
        replace hkN2 := hide hkN2
        replace hm1 := hide hm1
        go_wp2_with fail
        (with_reducible refine hlk8.mono ?_)
        rintro x w8 ⟨⟨A8, n8, c8, rfl⟩, hb8⟩
        clear hlk8
        have hP8 := hP7.below hb8
        have hb8' := hb7'.trans (hb8.mono hb7'.size)
        have hz8 := hb8.size
        have hNT2 : N' < (T.set N' ((some ⟨x5, 0, none⟩, c5, rp.set j badPg) : PR)).length := by rw [List.length_set]; exact hNT
        obtain ⟨hr8, hap8⟩ := hP8.row hNT2
        rw [getD_set_eq hNT] at hr8 hap8
        have hgz : g < w8.heap.size := by have := hP8.1.lt g rfl; exact this.2
        have hpl8 : 4 + q + 2 = (rp.set j badPg).length := by
          have := hr8.2.2.1
          have h1 := congrArg List.length (unhide hset)
          rw [List.length_map, pagesQ_len, full_pos _ _ _ _ _ (mkS_ok hwf _ _ _).1] at h1
          exact h1.symm
        obtain ⟨A9, c9, w9, hrun9, hx9, hb9⟩ := Xr.copy w8 g ((some ⟨x5, 0, none⟩, c5, rp.set j badPg) : PR) (4 + q + 2) hpl8 hr8 hap8 hgz 33
        simp only at hrun9 hx9
        obtain ⟨x9, rfl, hx91, hx92⟩ := hx9.some_of (by omega)
        obtain ⟨j2, hj2⟩ : ∃ j2, j2 = (j + 1) % (4 + q + 2) := ⟨_, rfl⟩
        have hj2l : j2 < 4 + q + 2 := by rw [hj2]; exact Nat.mod_lt _ (by omega)
        have hjj : j ≠ j2 := by
          rw [hj2]
          by_cases h : j + 1 = 4 + q + 2
          · rw [h, Nat.mod_self]; omega
          · rw [Nat.mod_eq_of_lt (by omega)]; omega
        have hmod : ((j : Int) + 1).tmod (6 + (q : Int)) = (j2 : Int) := by
          rw [hj2, Int.tmod_eq_emod_of_nonneg (by omega)]
          push_cast
          congr 1
          omega
        have hj2I : (j2 : Int) < ((4 + q + 2 : Nat) : Int) := by omega
        obtain ⟨hx10, ⟨v4, m1⟩, ⟨v5, m2⟩, e1, e2, ⟨v6, m3⟩, e3, hxg9, hP10, hb10⟩ := Xr.step hP8 (by rw [List.length_set]; exact (unhide hT).symm) hb9 hx9 hx91 (k := N') (by omega) hj2l badPg (PgOk.bad _ 1) ⟨by decide, by decide⟩ (fun a ha => by cases ha) w.heap.size hb8'.size (by have := hb1.size; omega)
        clear hx9 hb9 hP8 hx10 hr8 hap8 hpl8 hP7 hb7
        change Pn (((w9.setCell ⟨x9, j2 * 2, none⟩ (.int .i64 1)).setCell ⟨x9, j2 * 2 + 1, none⟩ (.slice none 0 0)).setCell ⟨g, N', none⟩ (.slice (some ⟨x9, 0, none⟩) (4 + q + 2) c9)) w1.heap.size (.slice (some ⟨g, 0, none⟩) (1 + N') c2) ((T.set N' (some ⟨x5, 0, none⟩, c5, rp.set j badPg)).set N' (some ⟨x9, 0, none⟩, c9, (rp.set j badPg).set j2 badPg)) at hP10
        change Below w.heap.size _ (((w9.setCell ⟨x9, j2 * 2, none⟩ (.int .i64 1)).setCell ⟨x9, j2 * 2 + 1, none⟩ (.slice none 0 0)).setCell ⟨g, N', none⟩ (.slice (some ⟨x9, 0, none⟩) (4 + q + 2) c9)) at hb10
        rw [List.set_set] at hP10
        have hb10' := hb8'.trans hb10
        have hset2 := pages_set (unhide hset) j2
        have hl2 := look_bad (A := some ⟨x9, 0, none⟩) (c := c9) (ps := (rp.set j badPg).set j2 badPg) (P := [(j : Int), (j2 : Int)]) (unhide hm1) (by omega) hwf (by omega) (by omega) (ok_two (by omega) (by omega) hjj) (by rw [show 1 + N' - 1 = N' from by omega]; exact hset2)
        rw [show 1 + N' - 1 = N' from by omega, if_pos (by simp)] at hl2
        have hlk9 := look_pn 1 (some ⟨g, 0, none⟩) c2 (1 + N') w1.heap.size _ _ hP10 (by rw [List.length_set]; exact (unhide hT).symm) (by omega) hc2
        have hlk10 := hlk9.mono (R' := fun x w' => (∃ A' n' c', x = .returned (.agg #[.int .i64 1, .slice A' n' c'])) ∧ Below (((w9.setCell ⟨x9, j2 * 2, none⟩ (.int .i64 1)).setCell ⟨x9, j2 * 2 + 1, none⟩ (.slice none 0 0)).setCell ⟨g, N', none⟩ (.slice (some ⟨x9, 0, none⟩) (4 + q + 2) c9)).heap.size (((w9.setCell ⟨x9, j2 * 2, none⟩ (.int .i64 1)).setCell ⟨x9, j2 * 2 + 1, none⟩ (.slice none 0 0)).setCell ⟨g, N', none⟩ (.slice (some ⟨x9, 0, none⟩) (4 + q + 2) c9)) w') (fun x w' ⟨⟨A', c', T', hx, _⟩, hb⟩ => ⟨⟨A', _, c', by rw [hl2] at hx; exact hx⟩, hb⟩)
        clear hlk9 hl2 hset2 hP10 hj2
        go_wp2_with (at_builtin; refine wpList_step (fun K hK => step_append_ex (o := ⟨some 86, _, _, _, _, _⟩) (.tmp 84) (.tmp 85) 33 rfl (by rfl) ?_); (with_reducible refine app_ex hrun9 ?_ (hK _ _ ?_)); rfl)
        refine (hw4 _).mono ?_
        rintro e wq ⟨rfl, rfl⟩
        go_wp2_with fail
        (with_reducible refine hlk10.mono ?_)
        rintro x w11 ⟨⟨A11, n11, c11, rfl⟩, hb11⟩
        have hbF := hb10'.trans (hb11.mono hb10'.size)
        clear hlk10
        go_wp2_with fail
        go_ret
        exact ⟨rfl, hbF⟩
      · have hB1 : ((k : Int) == 1 + (N' : Int)) = false := by simp; omega
        have hkNI : (k : Int) < 1 + (N' : Int) := by omega
        rw [if_neg hkN] at hk1
        subst hk1
        replace hk0 := hide hk0
        replace hkN := hide hkN
        have hbF := hb13.alloc hb13.size (Obj.cells #[.int .i64 1, .slice A3 K1 c3] 31)
        go_wp2_with fail
        all_goals (go_ret; exact ⟨rfl, hbF⟩)
  · have hlI : ¬ (n : Int) ≤ 30 := by omega
    go_wp2_with fail
    go_ret
    exact ⟨rfl, hb1⟩
end Go.Proofs.Ytodbmgafejclmaa.Base
