/-
  Parts of a proof, laid together by a program of mine (pack.py): Bd.
-/
import Derived.Test.YtibileffpgnjhaaZB43
namespace Go.Proofs.Ytibileffpgnjhaa.Base
open Go.RowKit Go.Maps Go.Proofs.YtibileffpgnjhaaW.PrintWords Go.Proofs.YtibileffpgnjhaaW.PrintLast
open Go.Proofs.Ytibileffpgnjhaa.Fld Go.Proofs.Ytibileffpgnjhaa.Pl
set_option linter.unusedSimpArgs false
set_option linter.unusedVariables false
attribute [local go_sem] Ent.arr0 Ent.arr1 Ent.arr2 Ent.set1 Ent.set2 Ent.arr_size Ent.okW Ent.lit run_ldV_ent run_stV_ent ldR_some stR_true rd_new_whole rd_alloc canW_new canW_alloc wr_new wr_alloc rd_drew rd_drewN canW_drew canW_drewN run_bsS_ent run_bsS_ent0 run_eqI_ent rd_setCell rd_setCell_same canW_setCell' Option.map_some cell_wr_other rd_wr_same rd_wr_other
attribute [local go_sem ↓] ldV_ent stV_ent bsS_ent eqI_ent
attribute [local go_sem] Ent.arr0g Ent.arr1g Ent.arr2g run_ldV_dat rd_dat run_eqI_dat dat_lit
attribute [local go_sem ↓] ldV_dat eqI_dat
attribute [local go_sem] run_bdE4 run_bdE3 run_bdE1 run_bdE0
attribute [local go_sem ↓] build_ent
theorem make_ents (n : Nat) (hc : n ≤ 1000001) (i : Int) (hi : i = n) (W : World) :
    (Instr.makeSlice 22 (.int .i64 i) (.int .i64 i)).run Try.prog W = .ok (.slice (some ⟨W.heap.size, 0, none⟩) n n) (W.alloc (.cells (madeCells Ent.zero.arr (n * 19)) 44)) := by
  subst hi
  obtain ⟨i0, hi0, hz0, hz1, hz2⟩ := info_parts info_ent3
  have := run_make (P := Try.prog) W 22 44 i0 _ Try.underlying22 hi0 hz0 .i64 .i64 (n : Int) (n : Int) (by omega) (by omega) (by rw [hz2]; omega) (by omega)
  simpa [hz1, Value.cells] using this
theorem made_sl (n : Nat) (W : World) : Sl (W.alloc (.cells (madeCells Ent.zero.arr (n * 19)) 44)) 0 (W.alloc (.cells (madeCells Ent.zero.arr (n * 19)) 44)).heap.size 19 (some ⟨W.heap.size, 0, none⟩) ((List.replicate n Ent.zero).map Ent.arr) := by
  have := (Arr.made W 44 n Ent.zero.arr (by rw [Ent.arr_size]; omega)).sl (L := 0) (Nat.zero_le _)
  rw [Ent.arr_size] at this
  rw [List.map_replicate]
  exact this
theorem zeros_ok (n : Nat) : (∀ e ∈ List.replicate n Ent.zero, e.Wf) ∧ ∀ e ∈ List.replicate n Ent.zero, OkE e := by
  refine ⟨fun e he => ?_, fun e he => ?_⟩
  · rw [List.eq_of_mem_replicate he]; exact wf_zero
  · rw [List.eq_of_mem_replicate he]; exact ok_zero
/-- the numbers may be: a row -/
theorem bounds_enc (d s u a : Int) (m n : Nat) (W : World) (hd : d = m + 2) (hm : 4 ≤ m ∧ m ≤ 6) (hs : 1 ≤ s ∧ s ≤ 1099511627776) (hu : 0 ≤ u ∧ u ≤ 255) (ha : 0 ≤ a ∧ a ≤ 255) (hn : n ≤ m) :
    Calls Try.prog 12 #[.int .i64 d, .int .i64 s, .int .i64 u, .int .i64 a, .slice (some ⟨W.heap.size, 0, none⟩) n n] (W.alloc (.cells (madeCells Ent.zero.arr (n * 19)) 44)) fun x w' => ∃ A' c', x = .returned (.tuple #[.slice A' (m + 2) c', .int .i64 0]) ∧ m + 2 ≤ c' ∧ RC w' A' (m + 2) (fullE s u a (List.replicate n Ent.zero) m) ∧ Below W.heap.size W w' := by
  have := encode_all d s u a (some ⟨W.heap.size, 0, none⟩) n (List.replicate n Ent.zero) _ ⟨by omega, by omega⟩ (by simp; omega) (zeros_ok n).1 (by simp) (made_sl n W)
  rw [List.length_replicate] at this
  refine this.mono ?_
  rintro x w' ⟨hx, hb⟩
  have hb' : Below W.heap.size W w' := ((Below.refl W.heap.size W).alloc (Nat.le_refl _) _).trans (hb.mono (by simp))
  rcases hx with ⟨_, n', A', c', T, hd', rfl, hc', hT, hL⟩ | ⟨hno, _⟩
  · obtain rfl : n' = m := by omega
    have hTl : T.length ≤ 1000000 := by
      have := congrArg List.length hL
      rw [List.length_map] at this
      rw [this, fullE, List.length_append, rowsE_len]
      simp; omega
    obtain ⟨_, _, hC⟩ := RC.of_rws hT hTl
    rw [hL] at hC
    exact ⟨A', c', rfl, hc', hC, hb'⟩
  · exact absurd ⟨⟨by omega, by omega, hs.1, hs.2, hu.1, hu.2, ha.1, ha.2, by simp; omega⟩, (zeros_ok n).2⟩ hno
/-- they may not -/
theorem bounds_bad (d s u a : Int) (n : Nat) (W : World) (hd : I64 d) (hn : n ≤ 1000) (h : ¬ NumOk d s u a n) :
    Calls Try.prog 12 #[.int .i64 d, .int .i64 s, .int .i64 u, .int .i64 a, .slice (some ⟨W.heap.size, 0, none⟩) n n] (W.alloc (.cells (madeCells Ent.zero.arr (n * 19)) 44)) fun x w' => x = .returned (.tuple #[.slice none 0 0, .int .i64 1]) ∧ Below W.heap.size W w' := by
  have := encode_all d s u a (some ⟨W.heap.size, 0, none⟩) n (List.replicate n Ent.zero) _ hd (by simp; omega) (zeros_ok n).1 (by simp) (made_sl n W)
  rw [List.length_replicate] at this
  refine this.mono ?_
  rintro x w' ⟨hx, hb⟩
  have hb' : Below W.heap.size W w' := ((Below.refl W.heap.size W).alloc (Nat.le_refl _) _).trans (hb.mono (by simp))
  rcases hx with ⟨hok, _⟩ | ⟨_, rfl⟩
  · rw [List.length_replicate] at hok
    exact absurd hok.1 h
  · exact ⟨rfl, hb'⟩
/-- pages of it, read with so many that may be bad -/
theorem bounds_dec (s u a q : Int) (m n : Nat) (A : Option Addr) (c : Nat) (W : World) (hm : 4 ≤ m ∧ m ≤ 6) (hs : 1 ≤ s ∧ s ≤ 1099511627776) (hu : 0 ≤ u ∧ u ≤ 255) (ha : 0 ≤ a ∧ a ≤ 255) (hc : m + 2 ≤ c) (hC : RC W A (m + 2) (fullE s u a (List.replicate n Ent.zero) m)) :
    Calls Try.prog 18 #[.slice A (m + 2) c, .slice none 0 0] W fun x w' => ∃ A' c', x = .returned (.slice A' (m + 2) c') ∧ Below W.heap.size W w' ∧ Calls Try.prog 17 #[.int .i64 u, .int .i64 a, .slice A' (m + 2) c', .int .i64 q] w' fun x w2 =>
      ((0 ≤ q ∧ q ≤ 2 → ∃ A2 c2, x = .returned (.tuple #[.agg #[.int .i64 s, .int .i64 a, .slice A2 m c2], .int .i64 0])) ∧ (¬ (0 ≤ q ∧ q ≤ 2) → x = .returned (.tuple #[.agg #[.int .i64 0, .int .i64 0, .slice none 0 0], .int .i64 1]))) ∧ Below w'.heap.size w' w2 := by
  obtain ⟨z1, z2⟩ := zeros_ok n
  obtain ⟨f1, f2⟩ := full_fit s u a (List.replicate n Ent.zero) m z1
  refine (pages_all A c (m + 2) _ W f1.symm hC hc f2 (by omega)).mono ?_
  rintro x w' ⟨A', c', ps, rfl, hc', hq, hpg, ho, hb'⟩
  have hl : ps.length = m + 2 := by
    have := congrArg List.length hq
    rwa [List.length_map, pagesQ_len, f1] at this
  refine ⟨A', c', rfl, hb', (decode_all u a q A' c' (m + 2) ps w' hl.symm (pages_i64 hq (by simp)) hc' ((ho.sl (Pg.sized _) (by omega)).less (Nat.zero_le _)) (hpg.below hb')).mono ?_⟩
  rintro x w2 ⟨hx, hb2⟩
  refine ⟨⟨fun h => ?_, fun h => ?_⟩, hb2⟩
  · obtain ⟨_, d1⟩ := decP_back (most := q) hm hs hu ha z1 z2 (ok_nil (m + 2)) h.1 h.2 hq
    rw [d1, if_neg (by simp; omega)] at hx
    obtain ⟨A2, c2, hx', _, _⟩ := hx
    rw [padE_len] at hx'
    exact ⟨A2, c2, hx'⟩
  · have : decP u a ps q = (1, none) := if_pos (fun h2 => h h2.2.2)
    rw [this] at hx
    exact hx
theorem good_zero : goodE Ent.zero = Ent.zero := by
  unfold goodE Ent.zero
  simp
set_option maxRecDepth 100000 in
set_option maxHeartbeats 16000000 in
theorem bounds_walk (a0 a2 : Int) (ab : Bool) (w : World) (h0 : I64 a0) (h2 : I64 a2) :
    Calls Try.prog 9 #[.int .i64 a0, .bool ab, .int .i64 a2] w fun e w' => e = .returned (.bool true) ∧ Below w.heap.size w w' := by
  obtain ⟨z, hz, hw0⟩ := w11_lt a0 9 h0 (by omega) (by omega)
  obtain ⟨f, hf, hw2⟩ := w11_lt a2 100 h2 (by omega) (by omega)
  have hgood := fun w => good_any (⟨0, 0, 0, fun _ => 0⟩ : Ent) w wf_zero.1 wf_zero.2.1 wf_zero.2.2.1
  have hgz : goodE (⟨0, 0, 0, fun _ => 0⟩ : Ent) = ⟨0, 0, 0, fun _ => 0⟩ := good_zero
  rw [hgz] at hgood
  clear hgz
  rcases (by omega : z = 0 ∨ z = 1 ∨ z = 2 ∨ z = 3 ∨ z = 4 ∨ z = 5 ∨ z = 6 ∨ z = 7 ∨ z = 8) with rfl | rfl | rfl | rfl | rfl | rfl | rfl | rfl | rfl
  · cases ab with
    | true =>
      as_aux_lemma =>
        have hmk := make_ents 2 (by omega) (2) (by omega)
        have hen := fun (W : World) => bounds_bad (8 + (1 + (f : Int))) (5) (5) (5) 2 W ⟨by omega, by omega⟩ (by omega) (fun h => by unfold NumOk at h; omega)
        go_enter Try.func9, Try.ntmps9
        go_wp2_with fail
        refine (known_any _).mono ?_
        rintro e w1 ⟨rfl, hb1⟩
        go_wp2_with fail
        refine (hw2 _).mono ?_
        rintro e wq ⟨rfl, rfl⟩
        go_wp2_with fail
        refine (hw0 _).mono ?_
        rintro e wq ⟨rfl, rfl⟩
        have henw := hen w1
        clear hen
        go_wp2_with fail
        (with_reducible refine henw.mono ?_)
        rintro x w2 ⟨rfl, hb2'⟩
        have hb2 := hb1.trans (hb2'.mono hb1.size)
        go_wp2_with fail
        go_ret
        exact ⟨rfl, hb2⟩
    | false =>
      as_aux_lemma =>
        have hmk := make_ents 2 (by omega) 2 (by omega)
        have hen := fun (W : World) => bounds_enc 8 5 5 5 6 2 W (by omega) (by omega) (by omega) (by omega) (by omega) (by omega)
        have hde := fun (q : Int) A c W hc hC => bounds_dec 5 5 5 q 6 2 A c W (by omega) (by omega) (by omega) (by omega) hc hC
        go_enter Try.func9, Try.ntmps9
        go_wp2_with fail
        refine (known_any _).mono ?_
        rintro e w1 ⟨rfl, hb1⟩
        go_wp2_with fail
        refine (hw0 _).mono ?_
        rintro e wq ⟨rfl, rfl⟩
        have henw := hen w1
        clear hen
        go_wp2_with fail
        (with_reducible refine henw.mono ?_)
        rintro x w2 ⟨A2, c2, rfl, hc2, hC2, hb2'⟩
        have hb2 := hb1.trans (hb2'.mono hb1.size)
        have hpg := hde 0 A2 c2 w2 hc2 hC2
        clear henw hb2'
        go_wp2_with fail
        (with_reducible refine hpg.mono ?_)
        rintro x w3 ⟨A3, c3, rfl, hb3', hdec⟩
        have hb3 := hb2.trans (hb3'.mono hb2.size)
        have hC3 := Kd.C_below hC2 hb3'
        clear hpg hb3' hC2
        go_wp2_with fail
        (with_reducible refine hdec.mono ?_)
        rintro x w4 ⟨⟨hx4, _⟩, hb4'⟩
        obtain ⟨A4, c4, hx4⟩ := hx4 (by omega)
        subst hx4
        have hb4 := hb3.trans (hb4'.mono hb3.size)
        obtain ⟨W4, hW4⟩ : ∃ W4, W4 = w4.alloc (Obj.cells #[.int .i64 5, .int .i64 5, .slice A4 6 c4] 37) := ⟨_, rfl⟩
        have hb44 : Below w4.heap.size w4 W4 := by rw [hW4]; exact (Below.refl _ _).alloc (Nat.le_refl _) _
        have hbW4 := hb4.trans (hb44.mono hb4.size)
        have hC4 := Kd.C_below (Kd.C_below hC3 hb4') hb44
        have e4 : W4.heap[w4.heap.size]? = some (.cells #[.int .i64 5, .int .i64 5, .slice A4 6 c4] 37 (0, 0)) := by rw [hW4]; exact heap_alloc_new _ _
        obtain ⟨P4, hP4⟩ : ∃ P4, P4 = w4.heap.size := ⟨_, rfl⟩
        rw [← hP4] at e4
        have hpg := hde 3 A2 c2 W4 hc2 hC4
        clear hdec hb4' hb44 hC3
        go_wp2_with fail
        rw [← hW4, ← hP4]
        clear hW4
        replace hP4 := hide hP4
        (with_reducible refine hpg.mono ?_)
        rintro x w5 ⟨A5, c5, rfl, hb5', hdec⟩
        have hb5 := hbW4.trans (hb5'.mono hbW4.size)
        have hC5 := Kd.C_below hC4 hb5'
        have e5 := (hb5'.block P4 (Array.getElem?_eq_some_iff.1 e4).1).trans e4
        clear hpg hb5' hC4 e4
        replace e5 := hide e5
        go_wp2_with fail
        (with_reducible refine hdec.mono ?_)
        rintro x w6 ⟨⟨_, hx6⟩, hb6'⟩
        obtain rfl := hx6 (by omega)
        have hb6 := hb5.trans (hb6'.mono hb5.size)
        obtain ⟨W6, hW6⟩ : ∃ W6, W6 = w6.alloc (Obj.cells #[.int .i64 0, .int .i64 0, .slice none 0 0] 37) := ⟨_, rfl⟩
        have hb66 : Below w6.heap.size w6 W6 := by rw [hW6]; exact (Below.refl _ _).alloc (Nat.le_refl _) _
        have hb56 := hb6'.trans (hb66.mono hb6'.size)
        have hbW6 := hb6.trans (hb66.mono hb6.size)
        have hC6 := Kd.C_below (Kd.C_below hC5 hb6') hb66
        have e6 := (hb56.block P4 (Array.getElem?_eq_some_iff.1 (unhide e5)).1).trans (unhide e5)
        have hpg := hde (-1) A2 c2 W6 hc2 hC6
        clear hdec hb6' hb66 hC5 hx6 e5 hb56
        replace e6 := hide e6
        go_wp2_with fail
        rw [← hW6]
        clear hW6
        (with_reducible refine hpg.mono ?_)
        rintro x w7 ⟨A7, c7, rfl, hb7', hdec⟩
        have hb7 := hbW6.trans (hb7'.mono hbW6.size)
        have e7 := (hb7'.block P4 (Array.getElem?_eq_some_iff.1 (unhide e6)).1).trans (unhide e6)
        clear hpg hb7' hC6 e6
        replace e7 := hide e7
        go_wp2_with fail
        (with_reducible refine hdec.mono ?_)
        rintro x w8 ⟨⟨_, hx8⟩, hb8'⟩
        obtain rfl := hx8 (by omega)
        have hb8 := hb7.trans (hb8'.mono hb7.size)
        obtain ⟨W8, hW8⟩ : ∃ W8, W8 = w8.alloc (Obj.cells #[.int .i64 0, .int .i64 0, .slice none 0 0] 37) := ⟨_, rfl⟩
        have hb88 : Below w8.heap.size w8 W8 := by rw [hW8]; exact (Below.refl _ _).alloc (Nat.le_refl _) _
        have hb78 := hb8'.trans (hb88.mono hb8'.size)
        have hbW8 := hb8.trans (hb88.mono hb8.size)
        have e8 := (hb78.block P4 (Array.getElem?_eq_some_iff.1 (unhide e7)).1).trans (unhide e7)
        have l8 : P4 < w8.heap.size := Nat.lt_of_lt_of_le (Array.getElem?_eq_some_iff.1 (unhide e7)).1 hb8'.size
        have e8' : w8.heap[P4]? = some (.cells #[.int .i64 5, .int .i64 5, .slice A4 6 c4] 37 (0, 0)) := by
          have := Below.heap_alloc w8 (Obj.cells #[.int .i64 0, .int .i64 0, .slice none 0 0] 37) P4 l8
          rw [← hW8] at this
          exact this.symm.trans e8
        have d80 : w8.cell? ⟨P4, 0, none⟩ = some (.int .i64 5) := by simp [World.cell?, e8']
        have d82 : w8.cell? ⟨P4, 2, none⟩ = some (.slice A4 6 c4) := by simp [World.cell?, e8']
        have hgw := hgood W8
        clear hdec hb8' hb88 hx8 e7 e8 e8' hb78
        go_wp2_with fail
        rw [← hW8]
        clear hW8
        (with_reducible refine hgw.mono ?_)
        rintro x w9 ⟨rfl, hb9'⟩
        have hb9 := hbW8.trans (hb9'.mono hbW8.size)
        go_wp2_with fail
        go_ret
        exact ⟨rfl, hb9⟩
  · cases ab with
    | true =>
      as_aux_lemma =>
        have hmk := make_ents 2 (by omega) (2) (by omega)
        have hen := fun (W : World) => bounds_bad (6 - (1 + (f : Int))) (5) (5) (5) 2 W ⟨by omega, by omega⟩ (by omega) (fun h => by unfold NumOk at h; omega)
        go_enter Try.func9, Try.ntmps9
        go_wp2_with fail
        refine (known_any _).mono ?_
        rintro e w1 ⟨rfl, hb1⟩
        go_wp2_with fail
        refine (hw2 _).mono ?_
        rintro e wq ⟨rfl, rfl⟩
        go_wp2_with fail
        refine (hw0 _).mono ?_
        rintro e wq ⟨rfl, rfl⟩
        have henw := hen w1
        clear hen
        go_wp2_with fail
        (with_reducible refine henw.mono ?_)
        rintro x w2 ⟨rfl, hb2'⟩
        have hb2 := hb1.trans (hb2'.mono hb1.size)
        go_wp2_with fail
        go_ret
        exact ⟨rfl, hb2⟩
    | false =>
      as_aux_lemma =>
        have hmk := make_ents 2 (by omega) 2 (by omega)
        have hen := fun (W : World) => bounds_enc 6 5 5 5 4 2 W (by omega) (by omega) (by omega) (by omega) (by omega) (by omega)
        have hde := fun (q : Int) A c W hc hC => bounds_dec 5 5 5 q 4 2 A c W (by omega) (by omega) (by omega) (by omega) hc hC
        go_enter Try.func9, Try.ntmps9
        go_wp2_with fail
        refine (known_any _).mono ?_
        rintro e w1 ⟨rfl, hb1⟩
        go_wp2_with fail
        refine (hw0 _).mono ?_
        rintro e wq ⟨rfl, rfl⟩
        have henw := hen w1
        clear hen
        go_wp2_with fail
        (with_reducible refine henw.mono ?_)
        rintro x w2 ⟨A2, c2, rfl, hc2, hC2, hb2'⟩
        have hb2 := hb1.trans (hb2'.mono hb1.size)
        have hpg := hde 0 A2 c2 w2 hc2 hC2
        clear henw hb2'
        go_wp2_with fail
        (with_reducible refine hpg.mono ?_)
        rintro x w3 ⟨A3, c3, rfl, hb3', hdec⟩
        have hb3 := hb2.trans (hb3'.mono hb2.size)
        have hC3 := Kd.C_below hC2 hb3'
        clear hpg hb3' hC2
        go_wp2_with fail
        (with_reducible refine hdec.mono ?_)
        rintro x w4 ⟨⟨hx4, _⟩, hb4'⟩
        obtain ⟨A4, c4, hx4⟩ := hx4 (by omega)
        subst hx4
        have hb4 := hb3.trans (hb4'.mono hb3.size)
        obtain ⟨W4, hW4⟩ : ∃ W4, W4 = w4.alloc (Obj.cells #[.int .i64 5, .int .i64 5, .slice A4 4 c4] 37) := ⟨_, rfl⟩
        have hb44 : Below w4.heap.size w4 W4 := by rw [hW4]; exact (Below.refl _ _).alloc (Nat.le_refl _) _
        have hbW4 := hb4.trans (hb44.mono hb4.size)
        have hC4 := Kd.C_below (Kd.C_below hC3 hb4') hb44
        have e4 : W4.heap[w4.heap.size]? = some (.cells #[.int .i64 5, .int .i64 5, .slice A4 4 c4] 37 (0, 0)) := by rw [hW4]; exact heap_alloc_new _ _
        obtain ⟨P4, hP4⟩ : ∃ P4, P4 = w4.heap.size := ⟨_, rfl⟩
        rw [← hP4] at e4
        have hpg := hde 3 A2 c2 W4 hc2 hC4
        clear hdec hb4' hb44 hC3
        go_wp2_with fail
        rw [← hW4, ← hP4]
        clear hW4
        replace hP4 := hide hP4
        (with_reducible refine hpg.mono ?_)
        rintro x w5 ⟨A5, c5, rfl, hb5', hdec⟩
        have hb5 := hbW4.trans (hb5'.mono hbW4.size)
        have hC5 := Kd.C_below hC4 hb5'
        have e5 := (hb5'.block P4 (Array.getElem?_eq_some_iff.1 e4).1).trans e4
        clear hpg hb5' hC4 e4
        replace e5 := hide e5
        go_wp2_with fail
        (with_reducible refine hdec.mono ?_)
        rintro x w6 ⟨⟨_, hx6⟩, hb6'⟩
        obtain rfl := hx6 (by omega)
        have hb6 := hb5.trans (hb6'.mono hb5.size)
        obtain ⟨W6, hW6⟩ : ∃ W6, W6 = w6.alloc (Obj.cells #[.int .i64 0, .int .i64 0, .slice none 0 0] 37) := ⟨_, rfl⟩
        have hb66 : Below w6.heap.size w6 W6 := by rw [hW6]; exact (Below.refl _ _).alloc (Nat.le_refl _) _
        have hb56 := hb6'.trans (hb66.mono hb6'.size)
        have hbW6 := hb6.trans (hb66.mono hb6.size)
        have hC6 := Kd.C_below (Kd.C_below hC5 hb6') hb66
        have e6 := (hb56.block P4 (Array.getElem?_eq_some_iff.1 (unhide e5)).1).trans (unhide e5)
        have hpg := hde (-1) A2 c2 W6 hc2 hC6
        clear hdec hb6' hb66 hC5 hx6 e5 hb56
        replace e6 := hide e6
        go_wp2_with fail
        rw [← hW6]
        clear hW6
        (with_reducible refine hpg.mono ?_)
        rintro x w7 ⟨A7, c7, rfl, hb7', hdec⟩
        have hb7 := hbW6.trans (hb7'.mono hbW6.size)
        have e7 := (hb7'.block P4 (Array.getElem?_eq_some_iff.1 (unhide e6)).1).trans (unhide e6)
        clear hpg hb7' hC6 e6
        replace e7 := hide e7
        go_wp2_with fail
        (with_reducible refine hdec.mono ?_)
        rintro x w8 ⟨⟨_, hx8⟩, hb8'⟩
        obtain rfl := hx8 (by omega)
        have hb8 := hb7.trans (hb8'.mono hb7.size)
        obtain ⟨W8, hW8⟩ : ∃ W8, W8 = w8.alloc (Obj.cells #[.int .i64 0, .int .i64 0, .slice none 0 0] 37) := ⟨_, rfl⟩
        have hb88 : Below w8.heap.size w8 W8 := by rw [hW8]; exact (Below.refl _ _).alloc (Nat.le_refl _) _
        have hb78 := hb8'.trans (hb88.mono hb8'.size)
        have hbW8 := hb8.trans (hb88.mono hb8.size)
        have e8 := (hb78.block P4 (Array.getElem?_eq_some_iff.1 (unhide e7)).1).trans (unhide e7)
        have l8 : P4 < w8.heap.size := Nat.lt_of_lt_of_le (Array.getElem?_eq_some_iff.1 (unhide e7)).1 hb8'.size
        have e8' : w8.heap[P4]? = some (.cells #[.int .i64 5, .int .i64 5, .slice A4 4 c4] 37 (0, 0)) := by
          have := Below.heap_alloc w8 (Obj.cells #[.int .i64 0, .int .i64 0, .slice none 0 0] 37) P4 l8
          rw [← hW8] at this
          exact this.symm.trans e8
        have d80 : w8.cell? ⟨P4, 0, none⟩ = some (.int .i64 5) := by simp [World.cell?, e8']
        have d82 : w8.cell? ⟨P4, 2, none⟩ = some (.slice A4 4 c4) := by simp [World.cell?, e8']
        have hgw := hgood W8
        clear hdec hb8' hb88 hx8 e7 e8 e8' hb78
        go_wp2_with fail
        rw [← hW8]
        clear hW8
        (with_reducible refine hgw.mono ?_)
        rintro x w9 ⟨rfl, hb9'⟩
        have hb9 := hbW8.trans (hb9'.mono hbW8.size)
        go_wp2_with fail
        go_ret
        exact ⟨rfl, hb9⟩
  · cases ab with
    | true =>
      as_aux_lemma =>
        have hmk := make_ents 2 (by omega) (2) (by omega)
        have hen := fun (W : World) => bounds_bad (7) (1099511627776 + (1 + (f : Int))) (5) (5) 2 W ⟨by omega, by omega⟩ (by omega) (fun h => by unfold NumOk at h; omega)
        go_enter Try.func9, Try.ntmps9
        go_wp2_with fail
        refine (known_any _).mono ?_
        rintro e w1 ⟨rfl, hb1⟩
        go_wp2_with fail
        refine (hw2 _).mono ?_
        rintro e wq ⟨rfl, rfl⟩
        go_wp2_with fail
        refine (hw0 _).mono ?_
        rintro e wq ⟨rfl, rfl⟩
        have henw := hen w1
        clear hen
        go_wp2_with fail
        (with_reducible refine henw.mono ?_)
        rintro x w2 ⟨rfl, hb2'⟩
        have hb2 := hb1.trans (hb2'.mono hb1.size)
        go_wp2_with fail
        go_ret
        exact ⟨rfl, hb2⟩
    | false =>
      as_aux_lemma =>
        have hmk := make_ents 2 (by omega) 2 (by omega)
        have hen := fun (W : World) => bounds_enc 7 1099511627776 5 5 5 2 W (by omega) (by omega) (by omega) (by omega) (by omega) (by omega)
        have hde := fun (q : Int) A c W hc hC => bounds_dec 1099511627776 5 5 q 5 2 A c W (by omega) (by omega) (by omega) (by omega) hc hC
        go_enter Try.func9, Try.ntmps9
        go_wp2_with fail
        refine (known_any _).mono ?_
        rintro e w1 ⟨rfl, hb1⟩
        go_wp2_with fail
        refine (hw0 _).mono ?_
        rintro e wq ⟨rfl, rfl⟩
        have henw := hen w1
        clear hen
        go_wp2_with fail
        (with_reducible refine henw.mono ?_)
        rintro x w2 ⟨A2, c2, rfl, hc2, hC2, hb2'⟩
        have hb2 := hb1.trans (hb2'.mono hb1.size)
        have hpg := hde 0 A2 c2 w2 hc2 hC2
        clear henw hb2'
        go_wp2_with fail
        (with_reducible refine hpg.mono ?_)
        rintro x w3 ⟨A3, c3, rfl, hb3', hdec⟩
        have hb3 := hb2.trans (hb3'.mono hb2.size)
        have hC3 := Kd.C_below hC2 hb3'
        clear hpg hb3' hC2
        go_wp2_with fail
        (with_reducible refine hdec.mono ?_)
        rintro x w4 ⟨⟨hx4, _⟩, hb4'⟩
        obtain ⟨A4, c4, hx4⟩ := hx4 (by omega)
        subst hx4
        have hb4 := hb3.trans (hb4'.mono hb3.size)
        obtain ⟨W4, hW4⟩ : ∃ W4, W4 = w4.alloc (Obj.cells #[.int .i64 1099511627776, .int .i64 5, .slice A4 5 c4] 37) := ⟨_, rfl⟩
        have hb44 : Below w4.heap.size w4 W4 := by rw [hW4]; exact (Below.refl _ _).alloc (Nat.le_refl _) _
        have hbW4 := hb4.trans (hb44.mono hb4.size)
        have hC4 := Kd.C_below (Kd.C_below hC3 hb4') hb44
        have e4 : W4.heap[w4.heap.size]? = some (.cells #[.int .i64 1099511627776, .int .i64 5, .slice A4 5 c4] 37 (0, 0)) := by rw [hW4]; exact heap_alloc_new _ _
        obtain ⟨P4, hP4⟩ : ∃ P4, P4 = w4.heap.size := ⟨_, rfl⟩
        rw [← hP4] at e4
        have hpg := hde 3 A2 c2 W4 hc2 hC4
        clear hdec hb4' hb44 hC3
        go_wp2_with fail
        rw [← hW4, ← hP4]
        clear hW4
        replace hP4 := hide hP4
        (with_reducible refine hpg.mono ?_)
        rintro x w5 ⟨A5, c5, rfl, hb5', hdec⟩
        have hb5 := hbW4.trans (hb5'.mono hbW4.size)
        have hC5 := Kd.C_below hC4 hb5'
        have e5 := (hb5'.block P4 (Array.getElem?_eq_some_iff.1 e4).1).trans e4
        clear hpg hb5' hC4 e4
        replace e5 := hide e5
        go_wp2_with fail
        (with_reducible refine hdec.mono ?_)
        rintro x w6 ⟨⟨_, hx6⟩, hb6'⟩
        obtain rfl := hx6 (by omega)
        have hb6 := hb5.trans (hb6'.mono hb5.size)
        obtain ⟨W6, hW6⟩ : ∃ W6, W6 = w6.alloc (Obj.cells #[.int .i64 0, .int .i64 0, .slice none 0 0] 37) := ⟨_, rfl⟩
        have hb66 : Below w6.heap.size w6 W6 := by rw [hW6]; exact (Below.refl _ _).alloc (Nat.le_refl _) _
        have hb56 := hb6'.trans (hb66.mono hb6'.size)
        have hbW6 := hb6.trans (hb66.mono hb6.size)
        have hC6 := Kd.C_below (Kd.C_below hC5 hb6') hb66
        have e6 := (hb56.block P4 (Array.getElem?_eq_some_iff.1 (unhide e5)).1).trans (unhide e5)
        have hpg := hde (-1) A2 c2 W6 hc2 hC6
        clear hdec hb6' hb66 hC5 hx6 e5 hb56
        replace e6 := hide e6
        go_wp2_with fail
        rw [← hW6]
        clear hW6
        (with_reducible refine hpg.mono ?_)
        rintro x w7 ⟨A7, c7, rfl, hb7', hdec⟩
        have hb7 := hbW6.trans (hb7'.mono hbW6.size)
        have e7 := (hb7'.block P4 (Array.getElem?_eq_some_iff.1 (unhide e6)).1).trans (unhide e6)
        clear hpg hb7' hC6 e6
        replace e7 := hide e7
        go_wp2_with fail
        (with_reducible refine hdec.mono ?_)
        rintro x w8 ⟨⟨_, hx8⟩, hb8'⟩
        obtain rfl := hx8 (by omega)
        have hb8 := hb7.trans (hb8'.mono hb7.size)
        obtain ⟨W8, hW8⟩ : ∃ W8, W8 = w8.alloc (Obj.cells #[.int .i64 0, .int .i64 0, .slice none 0 0] 37) := ⟨_, rfl⟩
        have hb88 : Below w8.heap.size w8 W8 := by rw [hW8]; exact (Below.refl _ _).alloc (Nat.le_refl _) _
        have hb78 := hb8'.trans (hb88.mono hb8'.size)
        have hbW8 := hb8.trans (hb88.mono hb8.size)
        have e8 := (hb78.block P4 (Array.getElem?_eq_some_iff.1 (unhide e7)).1).trans (unhide e7)
        have l8 : P4 < w8.heap.size := Nat.lt_of_lt_of_le (Array.getElem?_eq_some_iff.1 (unhide e7)).1 hb8'.size
        have e8' : w8.heap[P4]? = some (.cells #[.int .i64 1099511627776, .int .i64 5, .slice A4 5 c4] 37 (0, 0)) := by
          have := Below.heap_alloc w8 (Obj.cells #[.int .i64 0, .int .i64 0, .slice none 0 0] 37) P4 l8
          rw [← hW8] at this
          exact this.symm.trans e8
        have d80 : w8.cell? ⟨P4, 0, none⟩ = some (.int .i64 1099511627776) := by simp [World.cell?, e8']
        have d82 : w8.cell? ⟨P4, 2, none⟩ = some (.slice A4 5 c4) := by simp [World.cell?, e8']
        have hgw := hgood W8
        clear hdec hb8' hb88 hx8 e7 e8 e8' hb78
        go_wp2_with fail
        rw [← hW8]
        clear hW8
        (with_reducible refine hgw.mono ?_)
        rintro x w9 ⟨rfl, hb9'⟩
        have hb9 := hbW8.trans (hb9'.mono hbW8.size)
        go_wp2_with fail
        go_ret
        exact ⟨rfl, hb9⟩
  · cases ab with
    | true =>
      as_aux_lemma =>
        have hmk := make_ents 2 (by omega) (2) (by omega)
        have hen := fun (W : World) => bounds_bad (7) (1 - (1 + (f : Int))) (5) (5) 2 W ⟨by omega, by omega⟩ (by omega) (fun h => by unfold NumOk at h; omega)
        go_enter Try.func9, Try.ntmps9
        go_wp2_with fail
        refine (known_any _).mono ?_
        rintro e w1 ⟨rfl, hb1⟩
        go_wp2_with fail
        refine (hw2 _).mono ?_
        rintro e wq ⟨rfl, rfl⟩
        go_wp2_with fail
        refine (hw0 _).mono ?_
        rintro e wq ⟨rfl, rfl⟩
        have henw := hen w1
        clear hen
        go_wp2_with fail
        (with_reducible refine henw.mono ?_)
        rintro x w2 ⟨rfl, hb2'⟩
        have hb2 := hb1.trans (hb2'.mono hb1.size)
        go_wp2_with fail
        go_ret
        exact ⟨rfl, hb2⟩
    | false =>
      as_aux_lemma =>
        have hmk := make_ents 2 (by omega) 2 (by omega)
        have hen := fun (W : World) => bounds_enc 7 1 5 5 5 2 W (by omega) (by omega) (by omega) (by omega) (by omega) (by omega)
        have hde := fun (q : Int) A c W hc hC => bounds_dec 1 5 5 q 5 2 A c W (by omega) (by omega) (by omega) (by omega) hc hC
        go_enter Try.func9, Try.ntmps9
        go_wp2_with fail
        refine (known_any _).mono ?_
        rintro e w1 ⟨rfl, hb1⟩
        go_wp2_with fail
        refine (hw0 _).mono ?_
        rintro e wq ⟨rfl, rfl⟩
        have henw := hen w1
        clear hen
        go_wp2_with fail
        (with_reducible refine henw.mono ?_)
        rintro x w2 ⟨A2, c2, rfl, hc2, hC2, hb2'⟩
        have hb2 := hb1.trans (hb2'.mono hb1.size)
        have hpg := hde 0 A2 c2 w2 hc2 hC2
        clear henw hb2'
        go_wp2_with fail
        (with_reducible refine hpg.mono ?_)
        rintro x w3 ⟨A3, c3, rfl, hb3', hdec⟩
        have hb3 := hb2.trans (hb3'.mono hb2.size)
        have hC3 := Kd.C_below hC2 hb3'
        clear hpg hb3' hC2
        go_wp2_with fail
        (with_reducible refine hdec.mono ?_)
        rintro x w4 ⟨⟨hx4, _⟩, hb4'⟩
        obtain ⟨A4, c4, hx4⟩ := hx4 (by omega)
        subst hx4
        have hb4 := hb3.trans (hb4'.mono hb3.size)
        obtain ⟨W4, hW4⟩ : ∃ W4, W4 = w4.alloc (Obj.cells #[.int .i64 1, .int .i64 5, .slice A4 5 c4] 37) := ⟨_, rfl⟩
        have hb44 : Below w4.heap.size w4 W4 := by rw [hW4]; exact (Below.refl _ _).alloc (Nat.le_refl _) _
        have hbW4 := hb4.trans (hb44.mono hb4.size)
        have hC4 := Kd.C_below (Kd.C_below hC3 hb4') hb44
        have e4 : W4.heap[w4.heap.size]? = some (.cells #[.int .i64 1, .int .i64 5, .slice A4 5 c4] 37 (0, 0)) := by rw [hW4]; exact heap_alloc_new _ _
        obtain ⟨P4, hP4⟩ : ∃ P4, P4 = w4.heap.size := ⟨_, rfl⟩
        rw [← hP4] at e4
        have hpg := hde 3 A2 c2 W4 hc2 hC4
        clear hdec hb4' hb44 hC3
        go_wp2_with fail
        rw [← hW4, ← hP4]
        clear hW4
        replace hP4 := hide hP4
        (with_reducible refine hpg.mono ?_)
        rintro x w5 ⟨A5, c5, rfl, hb5', hdec⟩
        have hb5 := hbW4.trans (hb5'.mono hbW4.size)
        have hC5 := Kd.C_below hC4 hb5'
        have e5 := (hb5'.block P4 (Array.getElem?_eq_some_iff.1 e4).1).trans e4
        clear hpg hb5' hC4 e4
        replace e5 := hide e5
        go_wp2_with fail
        (with_reducible refine hdec.mono ?_)
        rintro x w6 ⟨⟨_, hx6⟩, hb6'⟩
        obtain rfl := hx6 (by omega)
        have hb6 := hb5.trans (hb6'.mono hb5.size)
        obtain ⟨W6, hW6⟩ : ∃ W6, W6 = w6.alloc (Obj.cells #[.int .i64 0, .int .i64 0, .slice none 0 0] 37) := ⟨_, rfl⟩
        have hb66 : Below w6.heap.size w6 W6 := by rw [hW6]; exact (Below.refl _ _).alloc (Nat.le_refl _) _
        have hb56 := hb6'.trans (hb66.mono hb6'.size)
        have hbW6 := hb6.trans (hb66.mono hb6.size)
        have hC6 := Kd.C_below (Kd.C_below hC5 hb6') hb66
        have e6 := (hb56.block P4 (Array.getElem?_eq_some_iff.1 (unhide e5)).1).trans (unhide e5)
        have hpg := hde (-1) A2 c2 W6 hc2 hC6
        clear hdec hb6' hb66 hC5 hx6 e5 hb56
        replace e6 := hide e6
        go_wp2_with fail
        rw [← hW6]
        clear hW6
        (with_reducible refine hpg.mono ?_)
        rintro x w7 ⟨A7, c7, rfl, hb7', hdec⟩
        have hb7 := hbW6.trans (hb7'.mono hbW6.size)
        have e7 := (hb7'.block P4 (Array.getElem?_eq_some_iff.1 (unhide e6)).1).trans (unhide e6)
        clear hpg hb7' hC6 e6
        replace e7 := hide e7
        go_wp2_with fail
        (with_reducible refine hdec.mono ?_)
        rintro x w8 ⟨⟨_, hx8⟩, hb8'⟩
        obtain rfl := hx8 (by omega)
        have hb8 := hb7.trans (hb8'.mono hb7.size)
        obtain ⟨W8, hW8⟩ : ∃ W8, W8 = w8.alloc (Obj.cells #[.int .i64 0, .int .i64 0, .slice none 0 0] 37) := ⟨_, rfl⟩
        have hb88 : Below w8.heap.size w8 W8 := by rw [hW8]; exact (Below.refl _ _).alloc (Nat.le_refl _) _
        have hb78 := hb8'.trans (hb88.mono hb8'.size)
        have hbW8 := hb8.trans (hb88.mono hb8.size)
        have e8 := (hb78.block P4 (Array.getElem?_eq_some_iff.1 (unhide e7)).1).trans (unhide e7)
        have l8 : P4 < w8.heap.size := Nat.lt_of_lt_of_le (Array.getElem?_eq_some_iff.1 (unhide e7)).1 hb8'.size
        have e8' : w8.heap[P4]? = some (.cells #[.int .i64 1, .int .i64 5, .slice A4 5 c4] 37 (0, 0)) := by
          have := Below.heap_alloc w8 (Obj.cells #[.int .i64 0, .int .i64 0, .slice none 0 0] 37) P4 l8
          rw [← hW8] at this
          exact this.symm.trans e8
        have d80 : w8.cell? ⟨P4, 0, none⟩ = some (.int .i64 1) := by simp [World.cell?, e8']
        have d82 : w8.cell? ⟨P4, 2, none⟩ = some (.slice A4 5 c4) := by simp [World.cell?, e8']
        have hgw := hgood W8
        clear hdec hb8' hb88 hx8 e7 e8 e8' hb78
        go_wp2_with fail
        rw [← hW8]
        clear hW8
        (with_reducible refine hgw.mono ?_)
        rintro x w9 ⟨rfl, hb9'⟩
        have hb9 := hbW8.trans (hb9'.mono hbW8.size)
        go_wp2_with fail
        go_ret
        exact ⟨rfl, hb9⟩
  · cases ab with
    | true =>
      as_aux_lemma =>
        have hmk := make_ents 2 (by omega) (2) (by omega)
        have hen := fun (W : World) => bounds_bad (7) (5) (255 + (1 + (f : Int))) (5) 2 W ⟨by omega, by omega⟩ (by omega) (fun h => by unfold NumOk at h; omega)
        go_enter Try.func9, Try.ntmps9
        go_wp2_with fail
        refine (known_any _).mono ?_
        rintro e w1 ⟨rfl, hb1⟩
        go_wp2_with fail
        refine (hw2 _).mono ?_
        rintro e wq ⟨rfl, rfl⟩
        go_wp2_with fail
        refine (hw0 _).mono ?_
        rintro e wq ⟨rfl, rfl⟩
        have henw := hen w1
        clear hen
        go_wp2_with fail
        (with_reducible refine henw.mono ?_)
        rintro x w2 ⟨rfl, hb2'⟩
        have hb2 := hb1.trans (hb2'.mono hb1.size)
        go_wp2_with fail
        go_ret
        exact ⟨rfl, hb2⟩
    | false =>
      as_aux_lemma =>
        have hmk := make_ents 2 (by omega) 2 (by omega)
        have hen := fun (W : World) => bounds_enc 7 5 255 5 5 2 W (by omega) (by omega) (by omega) (by omega) (by omega) (by omega)
        have hde := fun (q : Int) A c W hc hC => bounds_dec 5 255 5 q 5 2 A c W (by omega) (by omega) (by omega) (by omega) hc hC
        go_enter Try.func9, Try.ntmps9
        go_wp2_with fail
        refine (known_any _).mono ?_
        rintro e w1 ⟨rfl, hb1⟩
        go_wp2_with fail
        refine (hw0 _).mono ?_
        rintro e wq ⟨rfl, rfl⟩
        have henw := hen w1
        clear hen
        go_wp2_with fail
        (with_reducible refine henw.mono ?_)
        rintro x w2 ⟨A2, c2, rfl, hc2, hC2, hb2'⟩
        have hb2 := hb1.trans (hb2'.mono hb1.size)
        have hpg := hde 0 A2 c2 w2 hc2 hC2
        clear henw hb2'
        go_wp2_with fail
        (with_reducible refine hpg.mono ?_)
        rintro x w3 ⟨A3, c3, rfl, hb3', hdec⟩
        have hb3 := hb2.trans (hb3'.mono hb2.size)
        have hC3 := Kd.C_below hC2 hb3'
        clear hpg hb3' hC2
        go_wp2_with fail
        (with_reducible refine hdec.mono ?_)
        rintro x w4 ⟨⟨hx4, _⟩, hb4'⟩
        obtain ⟨A4, c4, hx4⟩ := hx4 (by omega)
        subst hx4
        have hb4 := hb3.trans (hb4'.mono hb3.size)
        obtain ⟨W4, hW4⟩ : ∃ W4, W4 = w4.alloc (Obj.cells #[.int .i64 5, .int .i64 5, .slice A4 5 c4] 37) := ⟨_, rfl⟩
        have hb44 : Below w4.heap.size w4 W4 := by rw [hW4]; exact (Below.refl _ _).alloc (Nat.le_refl _) _
        have hbW4 := hb4.trans (hb44.mono hb4.size)
        have hC4 := Kd.C_below (Kd.C_below hC3 hb4') hb44
        have e4 : W4.heap[w4.heap.size]? = some (.cells #[.int .i64 5, .int .i64 5, .slice A4 5 c4] 37 (0, 0)) := by rw [hW4]; exact heap_alloc_new _ _
        obtain ⟨P4, hP4⟩ : ∃ P4, P4 = w4.heap.size := ⟨_, rfl⟩
        rw [← hP4] at e4
        have hpg := hde 3 A2 c2 W4 hc2 hC4
        clear hdec hb4' hb44 hC3
        go_wp2_with fail
        rw [← hW4, ← hP4]
        clear hW4
        replace hP4 := hide hP4
        (with_reducible refine hpg.mono ?_)
        rintro x w5 ⟨A5, c5, rfl, hb5', hdec⟩
        have hb5 := hbW4.trans (hb5'.mono hbW4.size)
        have hC5 := Kd.C_below hC4 hb5'
        have e5 := (hb5'.block P4 (Array.getElem?_eq_some_iff.1 e4).1).trans e4
        clear hpg hb5' hC4 e4
        replace e5 := hide e5
        go_wp2_with fail
        (with_reducible refine hdec.mono ?_)
        rintro x w6 ⟨⟨_, hx6⟩, hb6'⟩
        obtain rfl := hx6 (by omega)
        have hb6 := hb5.trans (hb6'.mono hb5.size)
        obtain ⟨W6, hW6⟩ : ∃ W6, W6 = w6.alloc (Obj.cells #[.int .i64 0, .int .i64 0, .slice none 0 0] 37) := ⟨_, rfl⟩
        have hb66 : Below w6.heap.size w6 W6 := by rw [hW6]; exact (Below.refl _ _).alloc (Nat.le_refl _) _
        have hb56 := hb6'.trans (hb66.mono hb6'.size)
        have hbW6 := hb6.trans (hb66.mono hb6.size)
        have hC6 := Kd.C_below (Kd.C_below hC5 hb6') hb66
        have e6 := (hb56.block P4 (Array.getElem?_eq_some_iff.1 (unhide e5)).1).trans (unhide e5)
        have hpg := hde (-1) A2 c2 W6 hc2 hC6
        clear hdec hb6' hb66 hC5 hx6 e5 hb56
        replace e6 := hide e6
        go_wp2_with fail
        rw [← hW6]
        clear hW6
        (with_reducible refine hpg.mono ?_)
        rintro x w7 ⟨A7, c7, rfl, hb7', hdec⟩
        have hb7 := hbW6.trans (hb7'.mono hbW6.size)
        have e7 := (hb7'.block P4 (Array.getElem?_eq_some_iff.1 (unhide e6)).1).trans (unhide e6)
        clear hpg hb7' hC6 e6
        replace e7 := hide e7
        go_wp2_with fail
        (with_reducible refine hdec.mono ?_)
        rintro x w8 ⟨⟨_, hx8⟩, hb8'⟩
        obtain rfl := hx8 (by omega)
        have hb8 := hb7.trans (hb8'.mono hb7.size)
        obtain ⟨W8, hW8⟩ : ∃ W8, W8 = w8.alloc (Obj.cells #[.int .i64 0, .int .i64 0, .slice none 0 0] 37) := ⟨_, rfl⟩
        have hb88 : Below w8.heap.size w8 W8 := by rw [hW8]; exact (Below.refl _ _).alloc (Nat.le_refl _) _
        have hb78 := hb8'.trans (hb88.mono hb8'.size)
        have hbW8 := hb8.trans (hb88.mono hb8.size)
        have e8 := (hb78.block P4 (Array.getElem?_eq_some_iff.1 (unhide e7)).1).trans (unhide e7)
        have l8 : P4 < w8.heap.size := Nat.lt_of_lt_of_le (Array.getElem?_eq_some_iff.1 (unhide e7)).1 hb8'.size
        have e8' : w8.heap[P4]? = some (.cells #[.int .i64 5, .int .i64 5, .slice A4 5 c4] 37 (0, 0)) := by
          have := Below.heap_alloc w8 (Obj.cells #[.int .i64 0, .int .i64 0, .slice none 0 0] 37) P4 l8
          rw [← hW8] at this
          exact this.symm.trans e8
        have d80 : w8.cell? ⟨P4, 0, none⟩ = some (.int .i64 5) := by simp [World.cell?, e8']
        have d82 : w8.cell? ⟨P4, 2, none⟩ = some (.slice A4 5 c4) := by simp [World.cell?, e8']
        have hgw := hgood W8
        clear hdec hb8' hb88 hx8 e7 e8 e8' hb78
        go_wp2_with fail
        rw [← hW8]
        clear hW8
        (with_reducible refine hgw.mono ?_)
        rintro x w9 ⟨rfl, hb9'⟩
        have hb9 := hbW8.trans (hb9'.mono hbW8.size)
        go_wp2_with fail
        go_ret
        exact ⟨rfl, hb9⟩
  · cases ab with
    | true =>
      as_aux_lemma =>
        have hmk := make_ents 2 (by omega) (2) (by omega)
        have hen := fun (W : World) => bounds_bad (7) (5) (-(1 + (f : Int))) (5) 2 W ⟨by omega, by omega⟩ (by omega) (fun h => by unfold NumOk at h; omega)
        go_enter Try.func9, Try.ntmps9
        go_wp2_with fail
        refine (known_any _).mono ?_
        rintro e w1 ⟨rfl, hb1⟩
        go_wp2_with fail
        refine (hw2 _).mono ?_
        rintro e wq ⟨rfl, rfl⟩
        go_wp2_with fail
        refine (hw0 _).mono ?_
        rintro e wq ⟨rfl, rfl⟩
        have henw := hen w1
        clear hen
        go_wp2_with fail
        (with_reducible refine henw.mono ?_)
        rintro x w2 ⟨rfl, hb2'⟩
        have hb2 := hb1.trans (hb2'.mono hb1.size)
        go_wp2_with fail
        go_ret
        exact ⟨rfl, hb2⟩
    | false =>
      as_aux_lemma =>
        have hmk := make_ents 2 (by omega) 2 (by omega)
        have hen := fun (W : World) => bounds_enc 7 5 0 5 5 2 W (by omega) (by omega) (by omega) (by omega) (by omega) (by omega)
        have hde := fun (q : Int) A c W hc hC => bounds_dec 5 0 5 q 5 2 A c W (by omega) (by omega) (by omega) (by omega) hc hC
        go_enter Try.func9, Try.ntmps9
        go_wp2_with fail
        refine (known_any _).mono ?_
        rintro e w1 ⟨rfl, hb1⟩
        go_wp2_with fail
        refine (hw0 _).mono ?_
        rintro e wq ⟨rfl, rfl⟩
        have henw := hen w1
        clear hen
        go_wp2_with fail
        (with_reducible refine henw.mono ?_)
        rintro x w2 ⟨A2, c2, rfl, hc2, hC2, hb2'⟩
        have hb2 := hb1.trans (hb2'.mono hb1.size)
        have hpg := hde 0 A2 c2 w2 hc2 hC2
        clear henw hb2'
        go_wp2_with fail
        (with_reducible refine hpg.mono ?_)
        rintro x w3 ⟨A3, c3, rfl, hb3', hdec⟩
        have hb3 := hb2.trans (hb3'.mono hb2.size)
        have hC3 := Kd.C_below hC2 hb3'
        clear hpg hb3' hC2
        go_wp2_with fail
        (with_reducible refine hdec.mono ?_)
        rintro x w4 ⟨⟨hx4, _⟩, hb4'⟩
        obtain ⟨A4, c4, hx4⟩ := hx4 (by omega)
        subst hx4
        have hb4 := hb3.trans (hb4'.mono hb3.size)
        obtain ⟨W4, hW4⟩ : ∃ W4, W4 = w4.alloc (Obj.cells #[.int .i64 5, .int .i64 5, .slice A4 5 c4] 37) := ⟨_, rfl⟩
        have hb44 : Below w4.heap.size w4 W4 := by rw [hW4]; exact (Below.refl _ _).alloc (Nat.le_refl _) _
        have hbW4 := hb4.trans (hb44.mono hb4.size)
        have hC4 := Kd.C_below (Kd.C_below hC3 hb4') hb44
        have e4 : W4.heap[w4.heap.size]? = some (.cells #[.int .i64 5, .int .i64 5, .slice A4 5 c4] 37 (0, 0)) := by rw [hW4]; exact heap_alloc_new _ _
        obtain ⟨P4, hP4⟩ : ∃ P4, P4 = w4.heap.size := ⟨_, rfl⟩
        rw [← hP4] at e4
        have hpg := hde 3 A2 c2 W4 hc2 hC4
        clear hdec hb4' hb44 hC3
        go_wp2_with fail
        rw [← hW4, ← hP4]
        clear hW4
        replace hP4 := hide hP4
        (with_reducible refine hpg.mono ?_)
        rintro x w5 ⟨A5, c5, rfl, hb5', hdec⟩
        have hb5 := hbW4.trans (hb5'.mono hbW4.size)
        have hC5 := Kd.C_below hC4 hb5'
        have e5 := (hb5'.block P4 (Array.getElem?_eq_some_iff.1 e4).1).trans e4
        clear hpg hb5' hC4 e4
        replace e5 := hide e5
        go_wp2_with fail
        (with_reducible refine hdec.mono ?_)
        rintro x w6 ⟨⟨_, hx6⟩, hb6'⟩
        obtain rfl := hx6 (by omega)
        have hb6 := hb5.trans (hb6'.mono hb5.size)
        obtain ⟨W6, hW6⟩ : ∃ W6, W6 = w6.alloc (Obj.cells #[.int .i64 0, .int .i64 0, .slice none 0 0] 37) := ⟨_, rfl⟩
        have hb66 : Below w6.heap.size w6 W6 := by rw [hW6]; exact (Below.refl _ _).alloc (Nat.le_refl _) _
        have hb56 := hb6'.trans (hb66.mono hb6'.size)
        have hbW6 := hb6.trans (hb66.mono hb6.size)
        have hC6 := Kd.C_below (Kd.C_below hC5 hb6') hb66
        have e6 := (hb56.block P4 (Array.getElem?_eq_some_iff.1 (unhide e5)).1).trans (unhide e5)
        have hpg := hde (-1) A2 c2 W6 hc2 hC6
        clear hdec hb6' hb66 hC5 hx6 e5 hb56
        replace e6 := hide e6
        go_wp2_with fail
        rw [← hW6]
        clear hW6
        (with_reducible refine hpg.mono ?_)
        rintro x w7 ⟨A7, c7, rfl, hb7', hdec⟩
        have hb7 := hbW6.trans (hb7'.mono hbW6.size)
        have e7 := (hb7'.block P4 (Array.getElem?_eq_some_iff.1 (unhide e6)).1).trans (unhide e6)
        clear hpg hb7' hC6 e6
        replace e7 := hide e7
        go_wp2_with fail
        (with_reducible refine hdec.mono ?_)
        rintro x w8 ⟨⟨_, hx8⟩, hb8'⟩
        obtain rfl := hx8 (by omega)
        have hb8 := hb7.trans (hb8'.mono hb7.size)
        obtain ⟨W8, hW8⟩ : ∃ W8, W8 = w8.alloc (Obj.cells #[.int .i64 0, .int .i64 0, .slice none 0 0] 37) := ⟨_, rfl⟩
        have hb88 : Below w8.heap.size w8 W8 := by rw [hW8]; exact (Below.refl _ _).alloc (Nat.le_refl _) _
        have hb78 := hb8'.trans (hb88.mono hb8'.size)
        have hbW8 := hb8.trans (hb88.mono hb8.size)
        have e8 := (hb78.block P4 (Array.getElem?_eq_some_iff.1 (unhide e7)).1).trans (unhide e7)
        have l8 : P4 < w8.heap.size := Nat.lt_of_lt_of_le (Array.getElem?_eq_some_iff.1 (unhide e7)).1 hb8'.size
        have e8' : w8.heap[P4]? = some (.cells #[.int .i64 5, .int .i64 5, .slice A4 5 c4] 37 (0, 0)) := by
          have := Below.heap_alloc w8 (Obj.cells #[.int .i64 0, .int .i64 0, .slice none 0 0] 37) P4 l8
          rw [← hW8] at this
          exact this.symm.trans e8
        have d80 : w8.cell? ⟨P4, 0, none⟩ = some (.int .i64 5) := by simp [World.cell?, e8']
        have d82 : w8.cell? ⟨P4, 2, none⟩ = some (.slice A4 5 c4) := by simp [World.cell?, e8']
        have hgw := hgood W8
        clear hdec hb8' hb88 hx8 e7 e8 e8' hb78
        go_wp2_with fail
        rw [← hW8]
        clear hW8
        (with_reducible refine hgw.mono ?_)
        rintro x w9 ⟨rfl, hb9'⟩
        have hb9 := hbW8.trans (hb9'.mono hbW8.size)
        go_wp2_with fail
        go_ret
        exact ⟨rfl, hb9⟩
  · cases ab with
    | true =>
      as_aux_lemma =>
        have hmk := make_ents 2 (by omega) (2) (by omega)
        have hen := fun (W : World) => bounds_bad (7) (5) (5) (255 + (1 + (f : Int))) 2 W ⟨by omega, by omega⟩ (by omega) (fun h => by unfold NumOk at h; omega)
        go_enter Try.func9, Try.ntmps9
        go_wp2_with fail
        refine (known_any _).mono ?_
        rintro e w1 ⟨rfl, hb1⟩
        go_wp2_with fail
        refine (hw2 _).mono ?_
        rintro e wq ⟨rfl, rfl⟩
        go_wp2_with fail
        refine (hw0 _).mono ?_
        rintro e wq ⟨rfl, rfl⟩
        have henw := hen w1
        clear hen
        go_wp2_with fail
        (with_reducible refine henw.mono ?_)
        rintro x w2 ⟨rfl, hb2'⟩
        have hb2 := hb1.trans (hb2'.mono hb1.size)
        go_wp2_with fail
        go_ret
        exact ⟨rfl, hb2⟩
    | false =>
      as_aux_lemma =>
        have hmk := make_ents 2 (by omega) 2 (by omega)
        have hen := fun (W : World) => bounds_enc 7 5 5 255 5 2 W (by omega) (by omega) (by omega) (by omega) (by omega) (by omega)
        have hde := fun (q : Int) A c W hc hC => bounds_dec 5 5 255 q 5 2 A c W (by omega) (by omega) (by omega) (by omega) hc hC
        go_enter Try.func9, Try.ntmps9
        go_wp2_with fail
        refine (known_any _).mono ?_
        rintro e w1 ⟨rfl, hb1⟩
        go_wp2_with fail
        refine (hw0 _).mono ?_
        rintro e wq ⟨rfl, rfl⟩
        have henw := hen w1
        clear hen
        go_wp2_with fail
        (with_reducible refine henw.mono ?_)
        rintro x w2 ⟨A2, c2, rfl, hc2, hC2, hb2'⟩
        have hb2 := hb1.trans (hb2'.mono hb1.size)
        have hpg := hde 0 A2 c2 w2 hc2 hC2
        clear henw hb2'
        go_wp2_with fail
        (with_reducible refine hpg.mono ?_)
        rintro x w3 ⟨A3, c3, rfl, hb3', hdec⟩
        have hb3 := hb2.trans (hb3'.mono hb2.size)
        have hC3 := Kd.C_below hC2 hb3'
        clear hpg hb3' hC2
        go_wp2_with fail
        (with_reducible refine hdec.mono ?_)
        rintro x w4 ⟨⟨hx4, _⟩, hb4'⟩
        obtain ⟨A4, c4, hx4⟩ := hx4 (by omega)
        subst hx4
        have hb4 := hb3.trans (hb4'.mono hb3.size)
        obtain ⟨W4, hW4⟩ : ∃ W4, W4 = w4.alloc (Obj.cells #[.int .i64 5, .int .i64 255, .slice A4 5 c4] 37) := ⟨_, rfl⟩
        have hb44 : Below w4.heap.size w4 W4 := by rw [hW4]; exact (Below.refl _ _).alloc (Nat.le_refl _) _
        have hbW4 := hb4.trans (hb44.mono hb4.size)
        have hC4 := Kd.C_below (Kd.C_below hC3 hb4') hb44
        have e4 : W4.heap[w4.heap.size]? = some (.cells #[.int .i64 5, .int .i64 255, .slice A4 5 c4] 37 (0, 0)) := by rw [hW4]; exact heap_alloc_new _ _
        obtain ⟨P4, hP4⟩ : ∃ P4, P4 = w4.heap.size := ⟨_, rfl⟩
        rw [← hP4] at e4
        have hpg := hde 3 A2 c2 W4 hc2 hC4
        clear hdec hb4' hb44 hC3
        go_wp2_with fail
        rw [← hW4, ← hP4]
        clear hW4
        replace hP4 := hide hP4
        (with_reducible refine hpg.mono ?_)
        rintro x w5 ⟨A5, c5, rfl, hb5', hdec⟩
        have hb5 := hbW4.trans (hb5'.mono hbW4.size)
        have hC5 := Kd.C_below hC4 hb5'
        have e5 := (hb5'.block P4 (Array.getElem?_eq_some_iff.1 e4).1).trans e4
        clear hpg hb5' hC4 e4
        replace e5 := hide e5
        go_wp2_with fail
        (with_reducible refine hdec.mono ?_)
        rintro x w6 ⟨⟨_, hx6⟩, hb6'⟩
        obtain rfl := hx6 (by omega)
        have hb6 := hb5.trans (hb6'.mono hb5.size)
        obtain ⟨W6, hW6⟩ : ∃ W6, W6 = w6.alloc (Obj.cells #[.int .i64 0, .int .i64 0, .slice none 0 0] 37) := ⟨_, rfl⟩
        have hb66 : Below w6.heap.size w6 W6 := by rw [hW6]; exact (Below.refl _ _).alloc (Nat.le_refl _) _
        have hb56 := hb6'.trans (hb66.mono hb6'.size)
        have hbW6 := hb6.trans (hb66.mono hb6.size)
        have hC6 := Kd.C_below (Kd.C_below hC5 hb6') hb66
        have e6 := (hb56.block P4 (Array.getElem?_eq_some_iff.1 (unhide e5)).1).trans (unhide e5)
        have hpg := hde (-1) A2 c2 W6 hc2 hC6
        clear hdec hb6' hb66 hC5 hx6 e5 hb56
        replace e6 := hide e6
        go_wp2_with fail
        rw [← hW6]
        clear hW6
        (with_reducible refine hpg.mono ?_)
        rintro x w7 ⟨A7, c7, rfl, hb7', hdec⟩
        have hb7 := hbW6.trans (hb7'.mono hbW6.size)
        have e7 := (hb7'.block P4 (Array.getElem?_eq_some_iff.1 (unhide e6)).1).trans (unhide e6)
        clear hpg hb7' hC6 e6
        replace e7 := hide e7
        go_wp2_with fail
        (with_reducible refine hdec.mono ?_)
        rintro x w8 ⟨⟨_, hx8⟩, hb8'⟩
        obtain rfl := hx8 (by omega)
        have hb8 := hb7.trans (hb8'.mono hb7.size)
        obtain ⟨W8, hW8⟩ : ∃ W8, W8 = w8.alloc (Obj.cells #[.int .i64 0, .int .i64 0, .slice none 0 0] 37) := ⟨_, rfl⟩
        have hb88 : Below w8.heap.size w8 W8 := by rw [hW8]; exact (Below.refl _ _).alloc (Nat.le_refl _) _
        have hb78 := hb8'.trans (hb88.mono hb8'.size)
        have hbW8 := hb8.trans (hb88.mono hb8.size)
        have e8 := (hb78.block P4 (Array.getElem?_eq_some_iff.1 (unhide e7)).1).trans (unhide e7)
        have l8 : P4 < w8.heap.size := Nat.lt_of_lt_of_le (Array.getElem?_eq_some_iff.1 (unhide e7)).1 hb8'.size
        have e8' : w8.heap[P4]? = some (.cells #[.int .i64 5, .int .i64 255, .slice A4 5 c4] 37 (0, 0)) := by
          have := Below.heap_alloc w8 (Obj.cells #[.int .i64 0, .int .i64 0, .slice none 0 0] 37) P4 l8
          rw [← hW8] at this
          exact this.symm.trans e8
        have d80 : w8.cell? ⟨P4, 0, none⟩ = some (.int .i64 5) := by simp [World.cell?, e8']
        have d82 : w8.cell? ⟨P4, 2, none⟩ = some (.slice A4 5 c4) := by simp [World.cell?, e8']
        have hgw := hgood W8
        clear hdec hb8' hb88 hx8 e7 e8 e8' hb78
        go_wp2_with fail
        rw [← hW8]
        clear hW8
        (with_reducible refine hgw.mono ?_)
        rintro x w9 ⟨rfl, hb9'⟩
        have hb9 := hbW8.trans (hb9'.mono hbW8.size)
        go_wp2_with fail
        go_ret
        exact ⟨rfl, hb9⟩
  · cases ab with
    | true =>
      as_aux_lemma =>
        have hmk := make_ents 2 (by omega) (2) (by omega)
        have hen := fun (W : World) => bounds_bad (7) (5) (5) (-(1 + (f : Int))) 2 W ⟨by omega, by omega⟩ (by omega) (fun h => by unfold NumOk at h; omega)
        go_enter Try.func9, Try.ntmps9
        go_wp2_with fail
        refine (known_any _).mono ?_
        rintro e w1 ⟨rfl, hb1⟩
        go_wp2_with fail
        refine (hw2 _).mono ?_
        rintro e wq ⟨rfl, rfl⟩
        go_wp2_with fail
        refine (hw0 _).mono ?_
        rintro e wq ⟨rfl, rfl⟩
        have henw := hen w1
        clear hen
        go_wp2_with fail
        (with_reducible refine henw.mono ?_)
        rintro x w2 ⟨rfl, hb2'⟩
        have hb2 := hb1.trans (hb2'.mono hb1.size)
        go_wp2_with fail
        go_ret
        exact ⟨rfl, hb2⟩
    | false =>
      as_aux_lemma =>
        have hmk := make_ents 2 (by omega) 2 (by omega)
        have hen := fun (W : World) => bounds_enc 7 5 5 0 5 2 W (by omega) (by omega) (by omega) (by omega) (by omega) (by omega)
        have hde := fun (q : Int) A c W hc hC => bounds_dec 5 5 0 q 5 2 A c W (by omega) (by omega) (by omega) (by omega) hc hC
        go_enter Try.func9, Try.ntmps9
        go_wp2_with fail
        refine (known_any _).mono ?_
        rintro e w1 ⟨rfl, hb1⟩
        go_wp2_with fail
        refine (hw0 _).mono ?_
        rintro e wq ⟨rfl, rfl⟩
        have henw := hen w1
        clear hen
        go_wp2_with fail
        (with_reducible refine henw.mono ?_)
        rintro x w2 ⟨A2, c2, rfl, hc2, hC2, hb2'⟩
        have hb2 := hb1.trans (hb2'.mono hb1.size)
        have hpg := hde 0 A2 c2 w2 hc2 hC2
        clear henw hb2'
        go_wp2_with fail
        (with_reducible refine hpg.mono ?_)
        rintro x w3 ⟨A3, c3, rfl, hb3', hdec⟩
        have hb3 := hb2.trans (hb3'.mono hb2.size)
        have hC3 := Kd.C_below hC2 hb3'
        clear hpg hb3' hC2
        go_wp2_with fail
        (with_reducible refine hdec.mono ?_)
        rintro x w4 ⟨⟨hx4, _⟩, hb4'⟩
        obtain ⟨A4, c4, hx4⟩ := hx4 (by omega)
        subst hx4
        have hb4 := hb3.trans (hb4'.mono hb3.size)
        obtain ⟨W4, hW4⟩ : ∃ W4, W4 = w4.alloc (Obj.cells #[.int .i64 5, .int .i64 0, .slice A4 5 c4] 37) := ⟨_, rfl⟩
        have hb44 : Below w4.heap.size w4 W4 := by rw [hW4]; exact (Below.refl _ _).alloc (Nat.le_refl _) _
        have hbW4 := hb4.trans (hb44.mono hb4.size)
        have hC4 := Kd.C_below (Kd.C_below hC3 hb4') hb44
        have e4 : W4.heap[w4.heap.size]? = some (.cells #[.int .i64 5, .int .i64 0, .slice A4 5 c4] 37 (0, 0)) := by rw [hW4]; exact heap_alloc_new _ _
        obtain ⟨P4, hP4⟩ : ∃ P4, P4 = w4.heap.size := ⟨_, rfl⟩
        rw [← hP4] at e4
        have hpg := hde 3 A2 c2 W4 hc2 hC4
        clear hdec hb4' hb44 hC3
        go_wp2_with fail
        rw [← hW4, ← hP4]
        clear hW4
        replace hP4 := hide hP4
        (with_reducible refine hpg.mono ?_)
        rintro x w5 ⟨A5, c5, rfl, hb5', hdec⟩
        have hb5 := hbW4.trans (hb5'.mono hbW4.size)
        have hC5 := Kd.C_below hC4 hb5'
        have e5 := (hb5'.block P4 (Array.getElem?_eq_some_iff.1 e4).1).trans e4
        clear hpg hb5' hC4 e4
        replace e5 := hide e5
        go_wp2_with fail
        (with_reducible refine hdec.mono ?_)
        rintro x w6 ⟨⟨_, hx6⟩, hb6'⟩
        obtain rfl := hx6 (by omega)
        have hb6 := hb5.trans (hb6'.mono hb5.size)
        obtain ⟨W6, hW6⟩ : ∃ W6, W6 = w6.alloc (Obj.cells #[.int .i64 0, .int .i64 0, .slice none 0 0] 37) := ⟨_, rfl⟩
        have hb66 : Below w6.heap.size w6 W6 := by rw [hW6]; exact (Below.refl _ _).alloc (Nat.le_refl _) _
        have hb56 := hb6'.trans (hb66.mono hb6'.size)
        have hbW6 := hb6.trans (hb66.mono hb6.size)
        have hC6 := Kd.C_below (Kd.C_below hC5 hb6') hb66
        have e6 := (hb56.block P4 (Array.getElem?_eq_some_iff.1 (unhide e5)).1).trans (unhide e5)
        have hpg := hde (-1) A2 c2 W6 hc2 hC6
        clear hdec hb6' hb66 hC5 hx6 e5 hb56
        replace e6 := hide e6
        go_wp2_with fail
        rw [← hW6]
        clear hW6
        (with_reducible refine hpg.mono ?_)
        rintro x w7 ⟨A7, c7, rfl, hb7', hdec⟩
        have hb7 := hbW6.trans (hb7'.mono hbW6.size)
        have e7 := (hb7'.block P4 (Array.getElem?_eq_some_iff.1 (unhide e6)).1).trans (unhide e6)
        clear hpg hb7' hC6 e6
        replace e7 := hide e7
        go_wp2_with fail
        (with_reducible refine hdec.mono ?_)
        rintro x w8 ⟨⟨_, hx8⟩, hb8'⟩
        obtain rfl := hx8 (by omega)
        have hb8 := hb7.trans (hb8'.mono hb7.size)
        obtain ⟨W8, hW8⟩ : ∃ W8, W8 = w8.alloc (Obj.cells #[.int .i64 0, .int .i64 0, .slice none 0 0] 37) := ⟨_, rfl⟩
        have hb88 : Below w8.heap.size w8 W8 := by rw [hW8]; exact (Below.refl _ _).alloc (Nat.le_refl _) _
        have hb78 := hb8'.trans (hb88.mono hb8'.size)
        have hbW8 := hb8.trans (hb88.mono hb8.size)
        have e8 := (hb78.block P4 (Array.getElem?_eq_some_iff.1 (unhide e7)).1).trans (unhide e7)
        have l8 : P4 < w8.heap.size := Nat.lt_of_lt_of_le (Array.getElem?_eq_some_iff.1 (unhide e7)).1 hb8'.size
        have e8' : w8.heap[P4]? = some (.cells #[.int .i64 5, .int .i64 0, .slice A4 5 c4] 37 (0, 0)) := by
          have := Below.heap_alloc w8 (Obj.cells #[.int .i64 0, .int .i64 0, .slice none 0 0] 37) P4 l8
          rw [← hW8] at this
          exact this.symm.trans e8
        have d80 : w8.cell? ⟨P4, 0, none⟩ = some (.int .i64 5) := by simp [World.cell?, e8']
        have d82 : w8.cell? ⟨P4, 2, none⟩ = some (.slice A4 5 c4) := by simp [World.cell?, e8']
        have hgw := hgood W8
        clear hdec hb8' hb88 hx8 e7 e8 e8' hb78
        go_wp2_with fail
        rw [← hW8]
        clear hW8
        (with_reducible refine hgw.mono ?_)
        rintro x w9 ⟨rfl, hb9'⟩
        have hb9 := hbW8.trans (hb9'.mono hbW8.size)
        go_wp2_with fail
        go_ret
        exact ⟨rfl, hb9⟩
  · cases ab with
    | true =>
      as_aux_lemma =>
        have hmk := make_ents (6 + f) (by omega) (5 + (1 + (f : Int))) (by omega)
        have hen := fun (W : World) => bounds_bad (7) (5) (5) (5) (6 + f) W ⟨by omega, by omega⟩ (by omega) (fun h => by unfold NumOk at h; omega)
        go_enter Try.func9, Try.ntmps9
        go_wp2_with fail
        refine (known_any _).mono ?_
        rintro e w1 ⟨rfl, hb1⟩
        go_wp2_with fail
        refine (hw2 _).mono ?_
        rintro e wq ⟨rfl, rfl⟩
        go_wp2_with fail
        refine (hw0 _).mono ?_
        rintro e wq ⟨rfl, rfl⟩
        have henw := hen w1
        clear hen
        go_wp2_with fail
        (with_reducible refine henw.mono ?_)
        rintro x w2 ⟨rfl, hb2'⟩
        have hb2 := hb1.trans (hb2'.mono hb1.size)
        go_wp2_with fail
        go_ret
        exact ⟨rfl, hb2⟩
    | false =>
      as_aux_lemma =>
        have hmk := make_ents 5 (by omega) 5 (by omega)
        have hen := fun (W : World) => bounds_enc 7 5 5 5 5 5 W (by omega) (by omega) (by omega) (by omega) (by omega) (by omega)
        have hde := fun (q : Int) A c W hc hC => bounds_dec 5 5 5 q 5 5 A c W (by omega) (by omega) (by omega) (by omega) hc hC
        go_enter Try.func9, Try.ntmps9
        go_wp2_with fail
        refine (known_any _).mono ?_
        rintro e w1 ⟨rfl, hb1⟩
        go_wp2_with fail
        refine (hw0 _).mono ?_
        rintro e wq ⟨rfl, rfl⟩
        have henw := hen w1
        clear hen
        go_wp2_with fail
        (with_reducible refine henw.mono ?_)
        rintro x w2 ⟨A2, c2, rfl, hc2, hC2, hb2'⟩
        have hb2 := hb1.trans (hb2'.mono hb1.size)
        have hpg := hde 0 A2 c2 w2 hc2 hC2
        clear henw hb2'
        go_wp2_with fail
        (with_reducible refine hpg.mono ?_)
        rintro x w3 ⟨A3, c3, rfl, hb3', hdec⟩
        have hb3 := hb2.trans (hb3'.mono hb2.size)
        have hC3 := Kd.C_below hC2 hb3'
        clear hpg hb3' hC2
        go_wp2_with fail
        (with_reducible refine hdec.mono ?_)
        rintro x w4 ⟨⟨hx4, _⟩, hb4'⟩
        obtain ⟨A4, c4, hx4⟩ := hx4 (by omega)
        subst hx4
        have hb4 := hb3.trans (hb4'.mono hb3.size)
        obtain ⟨W4, hW4⟩ : ∃ W4, W4 = w4.alloc (Obj.cells #[.int .i64 5, .int .i64 5, .slice A4 5 c4] 37) := ⟨_, rfl⟩
        have hb44 : Below w4.heap.size w4 W4 := by rw [hW4]; exact (Below.refl _ _).alloc (Nat.le_refl _) _
        have hbW4 := hb4.trans (hb44.mono hb4.size)
        have hC4 := Kd.C_below (Kd.C_below hC3 hb4') hb44
        have e4 : W4.heap[w4.heap.size]? = some (.cells #[.int .i64 5, .int .i64 5, .slice A4 5 c4] 37 (0, 0)) := by rw [hW4]; exact heap_alloc_new _ _
        obtain ⟨P4, hP4⟩ : ∃ P4, P4 = w4.heap.size := ⟨_, rfl⟩
        rw [← hP4] at e4
        have hpg := hde 3 A2 c2 W4 hc2 hC4
        clear hdec hb4' hb44 hC3
        go_wp2_with fail
        rw [← hW4, ← hP4]
        clear hW4
        replace hP4 := hide hP4
        (with_reducible refine hpg.mono ?_)
        rintro x w5 ⟨A5, c5, rfl, hb5', hdec⟩
        have hb5 := hbW4.trans (hb5'.mono hbW4.size)
        have hC5 := Kd.C_below hC4 hb5'
        have e5 := (hb5'.block P4 (Array.getElem?_eq_some_iff.1 e4).1).trans e4
        clear hpg hb5' hC4 e4
        replace e5 := hide e5
        go_wp2_with fail
        (with_reducible refine hdec.mono ?_)
        rintro x w6 ⟨⟨_, hx6⟩, hb6'⟩
        obtain rfl := hx6 (by omega)
        have hb6 := hb5.trans (hb6'.mono hb5.size)
        obtain ⟨W6, hW6⟩ : ∃ W6, W6 = w6.alloc (Obj.cells #[.int .i64 0, .int .i64 0, .slice none 0 0] 37) := ⟨_, rfl⟩
        have hb66 : Below w6.heap.size w6 W6 := by rw [hW6]; exact (Below.refl _ _).alloc (Nat.le_refl _) _
        have hb56 := hb6'.trans (hb66.mono hb6'.size)
        have hbW6 := hb6.trans (hb66.mono hb6.size)
        have hC6 := Kd.C_below (Kd.C_below hC5 hb6') hb66
        have e6 := (hb56.block P4 (Array.getElem?_eq_some_iff.1 (unhide e5)).1).trans (unhide e5)
        have hpg := hde (-1) A2 c2 W6 hc2 hC6
        clear hdec hb6' hb66 hC5 hx6 e5 hb56
        replace e6 := hide e6
        go_wp2_with fail
        rw [← hW6]
        clear hW6
        (with_reducible refine hpg.mono ?_)
        rintro x w7 ⟨A7, c7, rfl, hb7', hdec⟩
        have hb7 := hbW6.trans (hb7'.mono hbW6.size)
        have e7 := (hb7'.block P4 (Array.getElem?_eq_some_iff.1 (unhide e6)).1).trans (unhide e6)
        clear hpg hb7' hC6 e6
        replace e7 := hide e7
        go_wp2_with fail
        (with_reducible refine hdec.mono ?_)
        rintro x w8 ⟨⟨_, hx8⟩, hb8'⟩
        obtain rfl := hx8 (by omega)
        have hb8 := hb7.trans (hb8'.mono hb7.size)
        obtain ⟨W8, hW8⟩ : ∃ W8, W8 = w8.alloc (Obj.cells #[.int .i64 0, .int .i64 0, .slice none 0 0] 37) := ⟨_, rfl⟩
        have hb88 : Below w8.heap.size w8 W8 := by rw [hW8]; exact (Below.refl _ _).alloc (Nat.le_refl _) _
        have hb78 := hb8'.trans (hb88.mono hb8'.size)
        have hbW8 := hb8.trans (hb88.mono hb8.size)
        have e8 := (hb78.block P4 (Array.getElem?_eq_some_iff.1 (unhide e7)).1).trans (unhide e7)
        have l8 : P4 < w8.heap.size := Nat.lt_of_lt_of_le (Array.getElem?_eq_some_iff.1 (unhide e7)).1 hb8'.size
        have e8' : w8.heap[P4]? = some (.cells #[.int .i64 5, .int .i64 5, .slice A4 5 c4] 37 (0, 0)) := by
          have := Below.heap_alloc w8 (Obj.cells #[.int .i64 0, .int .i64 0, .slice none 0 0] 37) P4 l8
          rw [← hW8] at this
          exact this.symm.trans e8
        have d80 : w8.cell? ⟨P4, 0, none⟩ = some (.int .i64 5) := by simp [World.cell?, e8']
        have d82 : w8.cell? ⟨P4, 2, none⟩ = some (.slice A4 5 c4) := by simp [World.cell?, e8']
        have hgw := hgood W8
        clear hdec hb8' hb88 hx8 e7 e8 e8' hb78
        go_wp2_with fail
        rw [← hW8]
        clear hW8
        (with_reducible refine hgw.mono ?_)
        rintro x w9 ⟨rfl, hb9'⟩
        have hb9 := hbW8.trans (hb9'.mono hbW8.size)
        go_wp2_with fail
        go_ret
        exact ⟨rfl, hb9⟩
end Go.Proofs.Ytibileffpgnjhaa.Base
