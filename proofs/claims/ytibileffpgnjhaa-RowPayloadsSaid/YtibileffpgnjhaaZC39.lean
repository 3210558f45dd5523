/-
  Parts of a proof, laid together by a program of mine (pack.py): Pv.
-/
import Derived.Test.YtibileffpgnjhaaZC38
namespace Go.Proofs.Ytibileffpgnjhaa.Base
open Go.RowKit Go.Maps Go.Proofs.YtibileffpgnjhaaW.PrintWords Go.Proofs.YtibileffpgnjhaaW.PrintLast
open Go.Proofs.Ytibileffpgnjhaa.Fld Go.Proofs.Ytibileffpgnjhaa.Pl
set_option linter.unusedSimpArgs false
set_option linter.unusedVariables false
attribute [local go_sem] Ent.arr0 Ent.arr1 Ent.arr2 Ent.set1 Ent.set2 Ent.arr_size Ent.okW Ent.lit run_ldV_ent run_stV_ent ldR_some stR_true rd_new_whole rd_alloc canW_new canW_alloc wr_new wr_alloc rd_drew rd_drewN canW_drew canW_drewN run_bsS_ent run_bsS_ent0 run_eqI_ent rd_setCell rd_setCell_same canW_setCell' Option.map_some cell_wr_other rd_wr_same rd_wr_other
attribute [local go_sem ↓] ldV_ent stV_ent bsS_ent eqI_ent
attribute [local go_sem] Ent.arr0g Ent.arr1g Ent.arr2g run_ldV_dat rd_dat run_eqI_dat dat_lit
attribute [local go_sem ↓] ldV_dat eqI_dat
attribute [local go_sem] run_bdE4 run_bdE3 run_bdE1 run_bdE0
attribute [local go_sem ↓] build_ent
attribute [local go_sem] canW_wr_other Hd.arr_size Hd.arr0 Hd.arr0g Hd.okW Hd.lit run_ldV_hd run_stV_hd run_bdHd4 run_bdHd0 run_eqI_hd
attribute [local go_sem ↓] ldV_hd stV_hd build_hd eqI_hd
theorem full_row (s u a : Int) (es : List Ent) {m i : Nat} (h : i < m) : row (fullE s u a es m) i = bytesE s u a (i : Int) (es.getD i zeroE) := by
  have hl := rowsE_len s u a es m
  unfold row fullE
  rw [List.getD_eq_getElem?_getD, List.getElem?_append_left (by omega)]
  unfold rowsE
  rw [List.getElem?_map, List.getElem?_range h]
  rfl
set_option maxRecDepth 100000 in
set_option maxHeartbeats 8000000 in
theorem payl_walk (a1 a2 a3 a4 : Int) (A : Option Addr) (c N : Nat) (es : List Ent) (w : World) (h1 : I64 a1) (h2 : I64 a2) (h3 : I64 a3) (h4 : I64 a4) (hN : N = es.length) (hc : N ≤ c) (hm : c ≤ maxLen) (hs : Sl w 0 w.heap.size 19 A (es.map Ent.arr)) (hwf : ∀ e ∈ es, e.Wf) :
    Calls Try.prog 6 #[.slice A N c, .int .i64 a1, .int .i64 a2, .int .i64 a3, .int .i64 a4] w fun e w' => e = .returned (.bool true) ∧ Below w.heap.size w w' := by
  obtain ⟨s, hs99, hw1⟩ := w11_lt a1 99 h1 (by omega) (by omega)
  obtain ⟨u, hu, hw2⟩ := w11_lt a2 256 h2 (by omega) (by omega)
  obtain ⟨t, ht, hw3⟩ := w11_lt a3 256 h3 (by omega) (by omega)
  obtain ⟨k, hk, hw4⟩ := w11_lt a4 3 h4 (by omega) (by omega)
  obtain ⟨es1, hes1⟩ : ∃ es1, es1 = (es.take (4 + k)).map goodE := ⟨_, rfl⟩
  obtain ⟨hwf1, hok1⟩ := okw_good hes1 hwf
  have hl1 : es1.length ≤ 4 + k := by rw [hes1, List.length_map, List.length_take]; omega
  have hsl := fun (W : World) hsW => slots_own A c (4 + k) N (6 + (k : Int) - 2) es es1 W (by omega) hes1 (by omega) hN hc hm hwf hsW
  clear hes1 hwf
  generalize hn1 : es1.length = n1 at hl1 hsl
  have hn1' := hide hn1
  have hwf1 := hide hwf1
  have hok1 := hide hok1
  clear hn1
  replace hN := hide hN
  go_enter Try.func6, Try.ntmps6
  go_wp2_with fail
  refine (known_any _).mono ?_
  rintro e w1 ⟨rfl, hb1⟩
  go_wp2_with fail
  refine (hw4 _).mono ?_
  rintro e wq ⟨rfl, rfl⟩
  have hslw := hsl _ ((hs.below hb1).more hb1.size)
  go_wp2_with fail
  (with_reducible refine hslw.mono ?_)
  rintro x w2 ⟨A2, c2, rfl, hc2, ho2, hb2'⟩
  have hb2 := hb1.trans (hb2'.mono hb1.size)
  have hs2 : Sl w2 0 w2.heap.size 19 A2 (es1.map Ent.arr) := (ho2.sl (Ent.sized _) (by omega)).less (Nat.zero_le _)
  have hen := encode_all (6 + (k : Int)) (1 + (s : Int)) u t A2 c2 es1 w2 ⟨by omega, by omega⟩ (by have := unhide hn1'; omega) (unhide hwf1) (by rw [unhide hn1']; exact hc2) hs2
  rw [unhide hn1'] at hen
  clear hslw hsl ho2 hb2'
  go_wp2_with fail
  refine (hw1 _).mono ?_
  rintro e wq ⟨rfl, rfl⟩
  go_wp2_with fail
  refine (hw2 _).mono ?_
  rintro e wq ⟨rfl, rfl⟩
  go_wp2_with fail
  refine (hw3 _).mono ?_
  rintro e wq ⟨rfl, rfl⟩
  go_wp2_with fail
  (with_reducible refine hen.mono ?_)
  rintro x w3 ⟨hx3, hb3'⟩
  have hb3 := hb2.trans (hb3'.mono hb2.size)
  have hs3 : Sl w3 0 w2.heap.size 19 A2 (es1.map Ent.arr) := hs2.below hb3'
  have hb3z := hb3'.size
  rcases hx3 with ⟨_, m, A3, c3, T, hd, rfl, hc3, hT, hL⟩ | ⟨hno, _⟩
  · obtain rfl : m = 4 + k := by omega
    have hC := code_full (1 + (s : Int)) u t es1 (4 + k) (unhide hwf1)
    have hTl : T.length ≤ 1000000 := by
      have := congrArg List.length hL
      rw [List.length_map, hC.len] at this
      omega
    obtain ⟨hj1, hj2, hRC⟩ := RC.of_rws hT hTl
    clear hj1 hj2
    rw [hL] at hRC
    have hrow : ∀ i, i < 4 + k → row (fullE (1 + (s : Int)) u t es1 (4 + k)) i = bytesE (1 + (s : Int)) u t (i : Int) (es1.getD i zeroE) := fun i hi => full_row _ _ _ _ hi
    have hck := Ck.refcheck_rows _ A3 c3 (4 + k + 2) w3 hC.len.symm (by rw [hC.len]; omega) (by rw [hC.len]; omega) hC.good hc3 hRC
    have hr : rightR (fullE (1 + (s : Int)) u t es1 (4 + k)) = true := by
      unfold rightR
      rw [hC.len, show 4 + k + 2 - 2 = 4 + k from by omega, decide_eq_true hC.p, decide_eq_true hC.q]; rfl
    rw [hr] at hck
    generalize fullE (1 + (s : Int)) u t es1 (4 + k) = L at hRC hrow
    clear hen hs2 hb3' hd hT hL hC hTl hr
    replace hrow := hide hrow
    have hdI : (4 + (k : Int) + 2) = 6 + (k : Int) := by omega
    go_wp2_with fail
    (with_reducible refine hck.mono ?_)
    rintro x w4 ⟨rfl, hb4'⟩
    have hb4 := hb3.trans (hb4'.mono hb3.size)
    have hRC4 : RC w4 A3 (4 + k + 2) L := Kd.C_below hRC hb4'
    have hs4 : Sl w4 0 w2.heap.size 19 A2 (es1.map Ent.arr) := hs3.below (hb4'.mono hb3z)
    have hz24 : w2.heap.size ≤ w4.heap.size := Nat.le_trans hb3z hb4'.size
    clear hRC hs3 hck hb4'
    go_wp2_with fail
    go_loopw [15] (fun s15 wr => ∃ i : Nat, i ≤ 4 + k ∧ s15 = .int .i64 i ∧ Below w4.heap.size w4 wr) (fun s15 _ => 4 + k - (intOf s15).toNat)
    case atStart => exact ⟨0, by omega, rfl, Below.refl _ _⟩
    case round =>
      obtain ⟨i, hi, rfl, hb⟩ := hrel
      by_cases hlt : i < 4 + k
      · have hltI : (i : Int) < 6 + (k : Int) - 2 := by omega
        have hiI : (i : Int) < 4 + (k : Int) + 2 := by omega
        have hi0 : (0 : Int) ≤ i := by omega
        obtain ⟨ad, A0, c0, rfl, hcell, hl0, hs0⟩ := RC.at_ (Kd.C_below hRC4 hb) i (by omega)
        rw [(unhide hrow) i hlt] at hcell hl0 hs0
        rw [bytesE_len] at hcell hl0
        have hpar := rparse_b A0 c0 48 (bytesE (1 + (s : Int)) u t (i : Int) (es1.getD i zeroE)) wr rfl hl0 (bytesE_len _ _ _ _ _) (bytesE_byt _ _ _ _ _ (getD_wf (unhide hwf1) i)) hs0
        rw [parse_bytes (by omega) (by omega) (by omega) (by omega) (getD_ok (unhide hok1) i) (getD_wf (unhide hwf1) i)] at hpar
        obtain ⟨X, hX⟩ : ∃ X, X = es1.getD i zeroE := ⟨_, rfl⟩
        rw [← hX] at hpar
        clear hs0 hl0
        have hbw : Below w.heap.size w wr := hb4.trans (hb.mono hb4.size)
        have hHd : decide ((⟨1 + (s : Int), u, t, i⟩ : Hd) = ⟨1 + (s : Int), u, t, i⟩) = true := decide_eq_true rfl
        have hXX : decide (X = X) = true := decide_eq_true rfl
        go_wp2_with fail
        (with_reducible refine hpar.mono ?_)
        rintro x w5 ⟨hx5, hb5'⟩
        have hx5' : x = .returned (.tuple #[.agg (⟨1 + (s : Int), u, t, i⟩ : Hd).arr, .agg X.arr, .int .i64 0]) := hx5
        subst hx5'
        have hb5 : Below w4.heap.size w4 w5 := hb.trans (hb5'.mono hb.size)
        have hbN : Below w4.heap.size w4 (((w5.alloc (.cells (⟨1 + (s : Int), u, t, i⟩ : Hd).arr 51)).alloc (.cells X.arr 44)).alloc (.cells X.arr 44)) := ((hb5.alloc hb5.size _).alloc (by have := hb5.size; simp; omega) _).alloc (by have := hb5.size; simp; omega) _
        clear hpar hx5 hb5' hbw
        by_cases hin : i < n1
        · have hinI : (i : Int) < n1 := by omega
          obtain ⟨b1, o1, rfl, _, l1, r1⟩ := hs4.at_ (k := i) (by rw [List.length_map, unhide hn1']; exact hin)
          have hX1 : X = es1[i]'(by rw [unhide hn1']; exact hin) := by
            rw [hX, List.getD_eq_getElem?_getD, List.getElem?_eq_getElem (by rw [unhide hn1']; exact hin)]; rfl
          simp only [List.getElem_map] at r1
          rw [← hX1] at r1
          have r5 : rd w5 b1 (o1 + i * 19) 19 = some X.arr := (rd_below hb5 (by omega) _ _).trans r1
          have hb1s : b1 < w5.heap.size := by have := hb5.size; omega
          have hb1a : b1 < w5.heap.size + 1 := by omega
          have hb1b : b1 < w5.heap.size + 1 + 1 := by omega
          clear r1 hX1 hX
          go_wp2_with fail
          go_roundw
          case rel => exact ⟨i + 1, by omega, by go_num, hbN⟩
          case measure => simp [intOf]; omega
        · have hinI : ¬ ((i : Int) < n1) := by omega
          have hX1 : X = (⟨0, 0, 0, fun _ => 0⟩ : Ent) := by
            rw [hX, List.getD_eq_getElem?_getD, List.getElem?_eq_none (by rw [unhide hn1']; omega)]; rfl
          clear hX
          subst hX1
          go_wp2_with fail
          go_roundw
          case rel => exact ⟨i + 1, by omega, by go_num, hbN⟩
          case measure => simp [intOf]; omega
      · obtain rfl : i = 4 + k := by omega
        have hbF := hb4.trans (hb.mono hb4.size)
        have hltI : ¬ (4 + (k : Int) < 6 + (k : Int) - 2) := by omega
        go_wp2_with fail
        go_ret
        exact ⟨rfl, hbF⟩
  · exact absurd ⟨⟨by omega, by omega, by omega, by omega, by omega, by omega, by omega, by omega, by have := unhide hn1'; omega⟩, unhide hok1⟩ hno
end Go.Proofs.Ytibileffpgnjhaa.Base
