/-
  Parts of a proof, laid together by a program of mine (pack.py): Bw.
-/
import Derived.Test.YtibileffpgnjhaaZA38
namespace Go.Proofs.Ytibileffpgnjhaa.Base
open Go.RowKit Go.Maps Go.Proofs.YtibileffpgnjhaaW.PrintWords Go.Proofs.YtibileffpgnjhaaW.PrintLast
open Go.Proofs.Ytibileffpgnjhaa.Fld Go.Proofs.Ytibileffpgnjhaa.Pl
set_option linter.unusedSimpArgs false
set_option linter.unusedVariables false
attribute [local go_sem] Ent.arr0 Ent.arr1 Ent.arr2 Ent.set1 Ent.set2 Ent.arr_size Ent.okW Ent.lit run_ldV_ent run_stV_ent ldR_some stR_true rd_new_whole rd_alloc canW_new canW_alloc wr_new wr_alloc rd_drew rd_drewN canW_drew canW_drewN run_bsS_ent run_bsS_ent0 run_eqI_ent rd_setCell rd_setCell_same canW_setCell' Option.map_some cell_wr_other rd_wr_same rd_wr_other
attribute [local go_sem ↓] ldV_ent stV_ent bsS_ent eqI_ent
attribute [local go_sem] Ent.arr0g Ent.arr1g Ent.arr2g run_ldV_dat rd_dat run_eqI_dat dat_lit
attribute [local go_sem ↓] ldV_dat eqI_dat
attribute [local go_sem] run_bdE4 run_bdE3 run_bdE1 run_bdE0
attribute [local go_sem ↓] build_ent
def lenOf (v : Value) : Nat := match v with | .slice _ n _ => n | _ => 0
set_option maxRecDepth 100000 in
set_option maxHeartbeats 4000000 in
theorem back_walk (a0 a1 a2 a3 a6 : Int) (A A5 : Option Addr) (c c5 N M : Nat) (es : List Ent) (lost : List Int) (w : World) (h0 : I64 a0) (h1 : I64 a1) (h2 : I64 a2) (h3 : I64 a3) (h6 : I64 a6) (hN : N = es.length) (hc : N ≤ c) (hm : c ≤ maxLen) (hs : Sl w 0 w.heap.size 19 A (es.map Ent.arr)) (hwf : ∀ e ∈ es, e.Wf)
    (hM : M = lost.length) (hc5 : M ≤ c5) (hm5 : c5 ≤ maxLen) (hs5 : Sl w 0 w.heap.size 1 A5 (In lost)) :
    Calls Try.prog 4 #[.int .i64 a0, .int .i64 a1, .int .i64 a2, .int .i64 a3, .slice A N c, .slice A5 M c5, .int .i64 a6] w fun e w' => e = .returned (.bool true) ∧ Below w.heap.size w w' := by
  obtain ⟨k, hk, hw0⟩ := w11_lt a0 3 h0 (by omega) (by omega)
  obtain ⟨s, hs99, hw1⟩ := w11_lt a1 99 h1 (by omega) (by omega)
  obtain ⟨u, hu, hw2⟩ := w11_lt a2 256 h2 (by omega) (by omega)
  obtain ⟨t, ht, hw3⟩ := w11_lt a3 256 h3 (by omega) (by omega)
  obtain ⟨q, hq3, hw6⟩ := w11_lt a6 3 h6 (by omega) (by omega)
  obtain ⟨P, hP, hpl⟩ := places_out A5 c5 M (6 + k) 3 lost w hM hc5 hm5 (by omega) (by omega) (by omega) hs5
  obtain ⟨es1, hes1⟩ : ∃ es1, es1 = (es.take (4 + k)).map goodE := ⟨_, rfl⟩
  obtain ⟨hwf1, hok1⟩ := okw_good hes1 hwf
  have hl1 : es1.length ≤ 4 + k := by rw [hes1, List.length_map, List.length_take]; omega
  have hsl := fun (W : World) hsW => slots_own A c (4 + k) N (6 + (k : Int) - 2) es es1 W (by omega) hes1 (by omega) hN hc hm hwf hsW
  clear hes1 hwf
  generalize hn1 : es1.length = n1 at hl1 hsl
  have hpad0 : padE es1 n1 = es1 := by rw [← hn1]; exact padE_self es1
  have hn1' := hide hn1
  have hwf1 := hide hwf1
  have hok1 := hide hok1
  replace hpad0 := hide hpad0
  replace hP := hide hP
  clear hn1
  replace hN := hide hN
  replace hM := hide hM
  go_enter Try.func4, Try.ntmps4
  go_wp2_with fail
  refine (known_any _).mono ?_
  rintro e w1 ⟨rfl, hb1⟩
  by_cases hl : N ≤ 12
  · have hlI : (N : Int) ≤ 12 := by omega
    go_wp2_with fail
    refine (hw0 _).mono ?_
    rintro e wq ⟨rfl, rfl⟩
    go_wp2_with fail
    refine (hw1 _).mono ?_
    rintro e wq ⟨rfl, rfl⟩
    go_wp2_with fail
    refine (hw2 _).mono ?_
    rintro e wq ⟨rfl, rfl⟩
    go_wp2_with fail
    refine (hw3 _).mono ?_
    rintro e wq ⟨rfl, rfl⟩
    go_wp2_with fail
    refine (hw6 _).mono ?_
    rintro e wq ⟨rfl, rfl⟩
    have hslw := hsl _ ((hs.below hb1).more hb1.size)
    go_wp2_with fail
    (with_reducible refine hslw.mono ?_)
    rintro x w2 ⟨A2, c2, rfl, hc2, ho2, hb2'⟩
    have hb2 := hb1.trans (hb2'.mono hb1.size)
    have hs2 : Sl w2 0 w2.heap.size 19 A2 (es1.map Ent.arr) := (ho2.sl (Ent.sized _) (by omega)).less (Nat.zero_le _)
    have hen := rencode_row (6 + (k : Int)) (4 + k) (1 + (s : Int)) u t A2 c2 n1 es1 w2 (by omega) (by omega) (by omega) (by omega) (by omega) (unhide hn1').symm hl1 (unhide hwf1) (unhide hok1) hc2 hs2
    have hO2 : Ow w2 w.heap.size 44 19 (.slice A2 n1 c2) (es1.map Ent.arr) := ho2.less hb1.size
    clear hslw hsl hs2 ho2 hb2'
    go_wp2_with fail
    (with_reducible refine hen.mono ?_)
    rintro x w3 ⟨A3, c3, rfl, hc3, hC3, hb3'⟩
    have hb3 := hb2.trans (hb3'.mono hb2.size)
    have hO3 := hO2.below hb3' (fun g hg => (hO2.lt g hg).2)
    clear hen hO2 hb3'
    have hplw := hpl _ hb3
    rw [show ((6 + k : Nat) : Int) = 6 + (k : Int) from by omega, show ((3 : Nat) : Int) = 3 from rfl] at hplw
    generalize hnp : P.length = np at hplw
    have hnp' := hide hnp
    clear hnp hpl
    go_wp2_with fail
    (with_reducible refine hplw.mono ?_)
    rintro x w4 ⟨A4, c4, rfl, hc4, hs4, hb4'⟩
    have hb4 := hb3.trans (hb4'.mono hb3.size)
    have hO4 := hO3.below hb4' (fun g hg => (hO3.lt g hg).2)
    have hC4 : RC w4 A3 (4 + k + 2) (fullE (1 + (s : Int)) u t es1 (4 + k)) := Kd.C_below hC3 hb4'
    obtain ⟨ff1, ff2⟩ := full_fit (1 + (s : Int)) u t es1 (4 + k) (unhide hwf1)
    have hpg := pages_any A3 A4 c3 c4 (4 + k + 2) np _ P w4 ff1.symm (unhide hnp').symm hC4 hc3 ff2 (by omega) hs4 (by have := (unhide hP).1; have := unhide hnp'; omega) (fun x hx => by have := (unhide hP).2.1 x hx; omega)
    clear hplw hO3 hC3 hb4' hs4 ff1 ff2 hC4
    go_wp2_with fail
    (with_reducible refine hpg.mono ?_)
    rintro x w5 ⟨A6, c6, ps, rfl, hc6, hq6, hp6, ho6, hb5'⟩
    have hb5 := hb4.trans (hb5'.mono hb4.size)
    have hO5 := hO4.below hb5' (fun g hg => (hO4.lt g hg).2)
    obtain ⟨lps, hdp⟩ := decP_back (most := (q : Int)) (by omega) (by omega) (by omega) (by omega) (unhide hwf1) (unhide hok1) ⟨3, by have := unhide hP; rwa [show 6 + k = 4 + k + 2 from by omega] at this⟩ (by omega) (by omega) hq6
    have hdec := decode_all (u : Int) (t : Int) (q : Int) A6 c6 (4 + k + 2) ps w5 lps.symm (pages_i64 hq6 (fun x hx => ((unhide hP).2.1 x hx).1)) hc6 ((ho6.sl (Pg.sized _) (by omega)).less (Nat.zero_le _)) (hp6.below hb5')
    rw [hdp, unhide hnp'] at hdec
    clear hpg hO4 hb5' hq6 hp6 ho6 hdp lps
    by_cases hgt : (q : Int) < np
    · rw [if_pos hgt] at hdec
      go_wp2_with fail
      (with_reducible refine hdec.mono ?_)
      rintro x w6 ⟨hx6, hb6'⟩
      have hx6' : x = .returned (.tuple #[.agg #[.int .i64 0, .int .i64 0, .slice none 0 0], .int .i64 11]) := hx6
      subst hx6'
      have hb6 := hb5.trans (hb6'.mono hb5.size)
      have hbF := hb6.alloc hb6.size (Obj.cells #[.int .i64 0, .int .i64 0, .slice none 0 0] 37)
      clear hdec hx6 hb6' hO5
      go_wp2_with fail
      go_ret
      exact ⟨rfl, hbF⟩
    · rw [if_neg hgt] at hdec
      go_wp2_with fail
      (with_reducible refine hdec.mono ?_)
      rintro x w6 ⟨hx6, hb6'⟩
      obtain ⟨A7, c7, hx6', hc7, hs7⟩ := hx6
      simp only [padE_len] at hx6' hc7
      subst hx6'
      have hb65 := hb6'.size
      have hb6 := hb5.trans (hb6'.mono hb5.size)
      have hO6 := hO5.below hb6' (fun g hg => (hO5.lt g hg).2)
      obtain ⟨P7, hP7⟩ : ∃ P7, P7 = w6.heap.size := ⟨_, rfl⟩
      obtain ⟨W7, hW7⟩ : ∃ W7, W7 = w6.alloc (Obj.cells #[.int .i64 (1 + (s : Int)), .int .i64 t, .slice A7 (4 + k) c7] 37) := ⟨_, rfl⟩
      have e7 : W7.heap[P7]? = some (.cells #[.int .i64 (1 + (s : Int)), .int .i64 t, .slice A7 (4 + k) c7] 37 (0, 0)) := by rw [hW7, hP7]; exact heap_alloc_new _ _
      have hb7 : Below w.heap.size w W7 := by rw [hW7]; exact hb6.alloc hb6.size _
      have hb67 : Below w6.heap.size w6 W7 := by rw [hW7]; exact (Below.refl _ _).alloc (Nat.le_refl _) _
      have hO7 := hO6.below hb67 (fun g hg => (hO6.lt g hg).2)
      have hs7' : Sl W7 w5.heap.size P7 19 A7 ((padE es1 (4 + k)).map Ent.arr) := by rw [hP7]; exact hs7.below hb67
      have hg5 : ∀ g, (Value.slice A2 n1 c2).ownBlock = some g → g < w5.heap.size := fun g hg => (hO5.lt g hg).2
      have hz7 : W7.heap.size = P7 + 1 := by rw [hW7, hP7]; simp
      clear hdec hb6' hO5 hO6 hs7 hb67
      go_wp2_with fail
      rw [← hW7, ← hP7]
      clear hW7
      rename ¬ (q < np) => hqn
      clear hqn
      replace hP7 := hide hP7
      replace e7 := hide e7
      go_loopw [16] (fun s16 wr => ∃ (j : Nat) (A8 : Option Addr) (c8 : Nat), n1 ≤ j ∧ j ≤ 4 + k ∧ s16 = .slice A8 j c8 ∧ j ≤ c8 ∧ Ow wr w.heap.size 44 19 (.slice A8 j c8) ((padE es1 j).map Ent.arr) ∧ Below w.heap.size w wr ∧ Hid (wr.heap[P7]? = some (.cells #[.int .i64 (1 + (s : Int)), .int .i64 t, .slice A7 (4 + k) c7] 37 (0, 0))) ∧ Sl wr w5.heap.size P7 19 A7 ((padE es1 (4 + k)).map Ent.arr) ∧ P7 < wr.heap.size ∧ ∀ g, (Value.slice A8 j c8).ownBlock = some g → g < w5.heap.size ∨ P7 < g) (fun s16 _ => 4 + k - lenOf s16)
      case atStart => exact ⟨n1, A2, c2, Nat.le_refl _, hl1, rfl, hc2, by rw [unhide hpad0]; exact hO7, hb7, e7, hs7', by omega, fun g hg => .inl (hg5 g hg)⟩
      case round =>
        clear hO7 hb7 e7 hs7' hz7 hg5
        obtain ⟨j, A8, c8, hj1, hj2, rfl, hc8, ho8, hb8, e8, hs8, hz8, hg8⟩ := hrel
        have hPw : w5.heap.size ≤ P7 := by rw [unhide hP7]; exact hb65
        by_cases hlt : j < 4 + k
        · have hltI : (j : Int) < 6 + (k : Int) - 2 := by omega
          obtain ⟨A9, c9, w9, hrun, ho9, hg9, hc9, hat9⟩ := run_append_ent_at (wr.alloc (.cells zeroE.arr 44)) w.heap.size j (.slice A8 j c8) (padE es1 j) zeroE (ho8.alloc _) (padE_len _ _) wr.heap.size 0 (rd_new_whole _ _ _ _ _ _ rfl (Ent.arr_size _).symm) (by omega) (by have := hb8.size; simp; omega) 22
          rw [← padE_succ (by rw [unhide hn1']; exact hj1)] at ho9
          have hne : ∀ i, w5.heap.size ≤ i → i ≤ P7 → some i ≠ (Value.slice A8 j c8).ownBlock := fun i h1 h2 e => by have := hg8 i e.symm; omega
          have k9 : ∀ i, w5.heap.size ≤ i → i ≤ P7 → w9.heap[i]? = wr.heap[i]? := fun i h1 h2 => (hg9.block i (by simp; omega) (hne i h1 h2)).trans (Below.heap_alloc _ _ _ (by omega))
          have e9 := (k9 P7 hPw (Nat.le_refl _)).trans (unhide e8)
          have hs9 : Sl w9 w5.heap.size P7 19 A7 ((padE es1 (4 + k)).map Ent.arr) := fun hn => by
            obtain ⟨b, o, hA, hL, hB, hr⟩ := hs8 hn
            exact ⟨b, o, hA, hL, hB, fun i hi => (rd_congr (k9 b hL (by omega)) _ _).trans (hr i hi)⟩
          have hz9 := hg9.size
          simp only [World.size_alloc] at hz9
          have hb9 : Below w.heap.size w w9 := below_grown (hb8.alloc hb8.size _) hg9 (by have := hb8.size; simp; omega) (fun k ek => (ho8.lt k ek).1)
          have hg9' : ∀ g, (Value.slice A9 (j + 1) c9).ownBlock = some g → g < w5.heap.size ∨ P7 < g := fun g hg => by
            rcases hat9 with h | h
            · rw [h] at hg; exact hg8 g hg
            · rw [h] at hg
              injection hg with hg
              simp at hg
              omega
          clear hg9 hat9 k9 hne hs8 e8 ho8 hb8 hg8
          replace e9 := hide e9
          go_wp2_with (at_builtin; refine wpList_step (fun K hK => step_append_ex (o := ⟨some 87, _, _, _, _, _⟩) (.tmp 84) (.tmp 86) 22 rfl (by rfl) ?_); (with_reducible refine app_ex hrun ?_ (hK _ _ ?_)); rfl)
          go_roundw
          case rel => exact ⟨j + 1, A9, c9, by omega, by omega, rfl, hc9, ho9, hb9, e9, hs9, by omega, hg9'⟩
          case measure => simp only [lenOf]; omega
        · obtain rfl : j = 4 + k := by omega
          have d0 : wr.cell? ⟨P7, 0, none⟩ = some (.int .i64 (1 + (s : Int))) := by simp [World.cell?, unhide e8]
          have d1 : wr.cell? ⟨P7, 1, none⟩ = some (.int .i64 t) := by simp [World.cell?, unhide e8]
          have d2 : wr.cell? ⟨P7, 2, none⟩ = some (.slice A7 (4 + k) c7) := by simp [World.cell?, unhide e8]
          have hsm := samerow_any (1 + (s : Int)) t (1 + (s : Int)) t A7 A8 c7 c8 (4 + k) (4 + k) (padE es1 (4 + k)) (padE es1 (4 + k)) wr (padE_len _ _).symm (padE_len _ _).symm (by omega) ((hs8.less (Nat.zero_le _)).more (by omega)) ((ho8.sl (Ent.sized _) (by omega)).less (Nat.zero_le _))
          have hyes : sameB (1 + (s : Int)) t (1 + (s : Int)) t (padE es1 (4 + k)) (padE es1 (4 + k)) = true := decide_eq_true ⟨rfl, rfl, rfl⟩
          rw [hyes] at hsm
          replace hyes := hide hyes
          clear hs8 ho8 hg8
          go_wp2_with fail
          (with_reducible refine hsm.mono ?_)
          rintro x w9 ⟨rfl, hb9⟩
          have hbF := hb8.trans (hb9.mono hb8.size)
          go_wp2_with fail
          go_ret
          exact ⟨rfl, hbF⟩
  · have hlI : ¬ (N : Int) ≤ 12 := by omega
    go_wp2_with fail
    go_ret
    exact ⟨rfl, hb1⟩
end Go.Proofs.Ytibileffpgnjhaa.Base
