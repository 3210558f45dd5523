/-
  Parts of a proof, laid together by a program of mine (pack.py): Sa.
-/
import Derived.Test.YtodbmgafejclmaaZA47
namespace Go.Proofs.Ytodbmgafejclmaa.Base
open Go.RowKit Go.Maps Go.Proofs.YtodbmgafejclmaaW.PrintWords Go.Proofs.YtodbmgafejclmaaW.PrintLast
set_option linter.unusedSimpArgs false
set_option linter.unusedVariables false
set_option maxRecDepth 100000 in
set_option maxHeartbeats 2000000 in
theorem same13_eq (st : Int) (A1 A2 : Option Addr) (c1 c2 n : Nat) (T1 T2 : List RowD) (w : World) (hn : n = T1.length) (hT : T1.map RowD.pl = T2.map RowD.pl) (hn1 : n ≤ 1000) (hs1 : Sl w 0 w.heap.size 3 A1 (T1.map RowD.arr)) (hs2 : Sl w 0 w.heap.size 3 A2 (T2.map RowD.arr)) (ho1 : ∀ t ∈ T1, RowOk w 0 t) (ho2 : ∀ t ∈ T2, RowOk w 0 t) :
    Calls Try.prog 15 #[.agg #[.int .i64 st, .slice A1 n c1], .agg #[.int .i64 st, .slice A2 n c2]] w fun x w' => x = .returned (.bool true) ∧ Below w.heap.size w w' := by
  have hn' := hide hn
  clear hn
  have hT' := hide hT
  clear hT
  go_enter Try.func15, Try.ntmps15
  go_wp2_with fail
  obtain ⟨P, hP⟩ : ∃ P, P = w.heap.size := ⟨_, rfl⟩
  have hb0 : Below w.heap.size w ((w.alloc (.cells #[.int .i64 st, .slice A1 n c1] 31)).alloc (.cells #[.int .i64 st, .slice A2 n c2] 31)) := ((Below.refl _ _).alloc (Nat.le_refl _) _).alloc (by simp) _
  have f0 : ((w.alloc (.cells #[.int .i64 st, .slice A1 n c1] 31)).alloc (.cells #[.int .i64 st, .slice A2 n c2] 31)).heap[P]? = some (.cells #[.int .i64 st, .slice A1 n c1] 31 (0, 0)) := by
    rw [hP]
    exact (Below.heap_alloc _ _ _ (by simp)).trans (heap_alloc_new _ _)
  have f1 : ((w.alloc (.cells #[.int .i64 st, .slice A1 n c1] 31)).alloc (.cells #[.int .i64 st, .slice A2 n c2] 31)).heap[P + 1]? = some (.cells #[.int .i64 st, .slice A2 n c2] 31 (0, 0)) := by
    rw [hP, show w.heap.size + 1 = (w.alloc (.cells #[.int .i64 st, .slice A1 n c1] 31)).heap.size from by simp]
    exact heap_alloc_new _ _
  rw [← hP]
  replace f0 := hide f0
  replace f1 := hide f1
  replace hP := hide hP
  go_loopw [5] (fun s5 wr => ∃ (i : Nat), i ≤ n ∧ s5 = .int .i64 i ∧ Below w.heap.size w wr ∧ Hid (wr.heap[P]? = some (.cells #[.int .i64 st, .slice A1 n c1] 31 (0, 0))) ∧ Hid (wr.heap[P + 1]? = some (.cells #[.int .i64 st, .slice A2 n c2] 31 (0, 0)))) (fun s5 _ => n - (intOf s5).toNat)
  case atStart => exact ⟨0, Nat.zero_le _, rfl, hb0, f0, f1⟩
  case round =>
    clear hb0 f0 f1
    obtain ⟨i, hi, rfl, hb, g0, g1⟩ := hrel
    have hz := hb.size
    have p1 : wr.cell? ⟨P, 1, none⟩ = some (.slice A1 n c1) := by simp [World.cell?, unhide g0]
    have p2 : wr.cell? ⟨P + 1, 1, none⟩ = some (.slice A2 n c2) := by simp [World.cell?, unhide g1]
    by_cases hin : i < n
    · have hinI : (i : Int) < n := by omega
      have hi0 : (0 : Int) ≤ i := by omega
      have hl1 : i < T1.length := by rw [← unhide hn']; exact hin
      have hl2 : i < T2.length := by have := congrArg List.length (unhide hT'); simp at this; omega
      obtain ⟨b1, o1, rfl, _, hb1, hr1⟩ := hs1.at_ (k := i) (by simpa using hl1)
      obtain ⟨b2, o2, rfl, _, hb2, hr2⟩ := hs2.at_ (k := i) (by simpa using hl2)
      simp only [List.getElem_map] at hr1 hr2
      have hpl : T1[i].pl = T2[i].pl := by
        have : (T1.map RowD.pl)[i]? = (T2.map RowD.pl)[i]? := by rw [unhide hT']
        rw [List.getElem?_map, List.getElem?_map, List.getElem?_eq_getElem hl1, List.getElem?_eq_getElem hl2] at this
        simpa using this
      have k1 := ho1 _ (List.getElem_mem hl1)
      have k2 := ho2 _ (List.getElem_mem hl2)
      obtain ⟨t1, ht1⟩ : ∃ t1, t1 = T1[i] := ⟨_, rfl⟩
      obtain ⟨t2, ht2⟩ : ∃ t2, t2 = T2[i] := ⟨_, rfl⟩
      rw [← ht1] at hr1 hpl k1
      rw [← ht2] at hr2 hpl k2
      obtain ⟨s, t, A3, c3, es⟩ := t1
      obtain ⟨s', t', A4, c4, es'⟩ := t2
      simp only [RowD.pl, Prod.mk.injEq] at hpl
      obtain ⟨rfl, rfl, rfl⟩ := hpl
      obtain ⟨k, hk⟩ : ∃ k, k = es.length := ⟨_, rfl⟩
      have hsr := samerow_any s t s t A3 A4 c3 c4 k k es es wr.drew hk hk (by rw [hk]; exact k1.2.1) ((k1.2.2.2.below hb).more hz).drew ((k2.2.2.2.below hb).more hz).drew
      rw [show sameB s t s t es es = true from decide_eq_true ⟨rfl, rfl, rfl⟩] at hsr
      have q := fun j hj => (hb.cell (p := ⟨b1, o1 + i * 3 + j, none⟩) hb1).trans (rd_cell hr1 j hj)
      have r := fun j hj => (hb.cell (p := ⟨b2, o2 + i * 3 + j, none⟩) hb2).trans (rd_cell hr2 j hj)
      have keep0 : ∀ w', Below wr.heap.size wr w' → w'.cell? ⟨P, 1, none⟩ = some (.slice (some ⟨b1, o1, none⟩) n c1) ∧ w'.cell? ⟨P + 1, 1, none⟩ = some (.slice (some ⟨b2, o2, none⟩) n c2) ∧ w'.cell? ⟨b1, o1 + i * 3, none⟩ = some (.int .i64 s) ∧ w'.cell? ⟨b1, o1 + i * 3 + 1, none⟩ = some (.int .i64 t) ∧ w'.cell? ⟨b1, o1 + i * 3 + 2, none⟩ = some (.slice A3 k c3) ∧ w'.cell? ⟨b2, o2 + i * 3, none⟩ = some (.int .i64 s) ∧ w'.cell? ⟨b2, o2 + i * 3 + 1, none⟩ = some (.int .i64 t) ∧ w'.cell? ⟨b2, o2 + i * 3 + 2, none⟩ = some (.slice A4 k c4) := by
        intro w' hb'
        have hx := fun (p : Addr) (v : Value) (h : wr.cell? p = some v) => (hb'.cell (World.block_lt_of_cell? _ _ h)).trans h
        refine ⟨hx _ _ p1, hx _ _ p2, hx _ _ ?_, hx _ _ ?_, hx _ _ ?_, hx _ _ ?_, hx _ _ ?_, hx _ _ ?_⟩
        · exact q 0 (by omega)
        · exact q 1 (by omega)
        · rw [hk]; exact q 2 (by omega)
        · exact r 0 (by omega)
        · exact r 1 (by omega)
        · rw [hk]; exact r 2 (by omega)
      clear q r hr1 hr2 k1 k2 ht1 ht2
      replace hk := hide hk
      replace hsr := hide hsr
      go_wp2_with fail
      -- SAME{
      refine start_ (n := 12) (S := fun w' => w'.cell? ⟨P, 1, none⟩ = some (.slice (some ⟨b1, o1, none⟩) n c1) ∧ w'.cell? ⟨P + 1, 1, none⟩ = some (.slice (some ⟨b2, o2, none⟩) n c2) ∧ w'.cell? ⟨b1, o1 + i * 3, none⟩ = some (.int .i64 s) ∧ w'.cell? ⟨b1, o1 + i * 3 + 1, none⟩ = some (.int .i64 t) ∧ w'.cell? ⟨b1, o1 + i * 3 + 2, none⟩ = some (.slice A3 k c3) ∧ w'.cell? ⟨b2, o2 + i * 3, none⟩ = some (.int .i64 s) ∧ w'.cell? ⟨b2, o2 + i * 3 + 1, none⟩ = some (.int .i64 t) ∧ w'.cell? ⟨b2, o2 + i * 3 + 2, none⟩ = some (.slice A4 k c4)) (ds := []) #[false, false, false, false, false, false, false, false, false, false, false, false] (by kernel_rfl) rfl rfl (keep0 _ (Below.refl _ _).drew) (fun hHeld => ?_)
      refine pure_ (i := 0) (N := some 27) (v := ?_) (a' := ?_) #[true, false, false, false, false, false, false, false, false, false, false, false] rfl rfl (by kernel_rfl) (fun _ _ _ h => h) (Or.inl ⟨by rfl, ?_⟩) ?_ ?_
      rotate_left
      · intro w'
        go_simp
        with_reducible rfl
      rotate_left
      · simp only [Act.put, List.setIfInBounds_toArray, List.set_cons_zero, List.set_cons_succ, i64_w, i32_w]
        rfl
      refine take_ (i := 1) (N := some 28) (v := ?_) (a' := ?_) #[true, true, false, false, false, false, false, false, false, false, false, false] rfl rfl (by kernel_rfl) (fun _ _ _ h => h) (Or.inl ⟨by rfl, ?_⟩) hHeld ?_ ?_
      rotate_left
      · intro w' hs_; obtain ⟨s0, s1, s2, s3, s4, s5, s6, s7⟩ := hs_
        go_simp
        with_reducible rfl
      rotate_left
      · simp only [Act.put, List.setIfInBounds_toArray, List.set_cons_zero, List.set_cons_succ, i64_w, i32_w]
        rfl
      refine pure_ (i := 2) (N := some 29) (v := ?_) (a' := ?_) #[true, true, true, false, false, false, false, false, false, false, false, false] rfl rfl (by kernel_rfl) (fun _ _ _ h => h) (Or.inl ⟨by rfl, ?_⟩) ?_ ?_
      rotate_left
      · intro w'
        go_simp
        with_reducible rfl
      rotate_left
      · simp only [Act.put, List.setIfInBounds_toArray, List.set_cons_zero, List.set_cons_succ, i64_w, i32_w]
        rfl
      refine pure_ (i := 3) (N := some 30) (v := ?_) (a' := ?_) #[true, true, true, true, false, false, false, false, false, false, false, false] rfl rfl (by kernel_rfl) (fun _ _ _ h => h) (Or.inl ⟨by rfl, ?_⟩) ?_ ?_
      rotate_left
      · intro w'
        go_simp
        with_reducible rfl
      rotate_left
      · simp only [Act.put, List.setIfInBounds_toArray, List.set_cons_zero, List.set_cons_succ, i64_w, i32_w]
        rfl
      refine take_ (i := 4) (N := some 31) (v := ?_) (a' := ?_) #[true, true, true, true, true, false, false, false, false, false, false, false] rfl rfl (by kernel_rfl) (fun _ _ _ h => h) (Or.inl ⟨by rfl, ?_⟩) hHeld ?_ ?_
      rotate_left
      · intro w' hs_; obtain ⟨s0, s1, s2, s3, s4, s5, s6, s7⟩ := hs_
        go_simp
        with_reducible rfl
      rotate_left
      · simp only [Act.put, List.setIfInBounds_toArray, List.set_cons_zero, List.set_cons_succ, i64_w, i32_w]
        rfl
      refine pure_ (i := 5) (N := some 32) (v := ?_) (a' := ?_) #[true, true, true, true, true, true, false, false, false, false, false, false] rfl rfl (by kernel_rfl) (fun _ _ _ h => h) (Or.inl ⟨by rfl, ?_⟩) ?_ ?_
      rotate_left
      · intro w'
        go_simp
        with_reducible rfl
      rotate_left
      · simp only [Act.put, List.setIfInBounds_toArray, List.set_cons_zero, List.set_cons_succ, i64_w, i32_w]
        rfl
      refine take_ (i := 6) (N := some 33) (v := ?_) (a' := ?_) #[true, true, true, true, true, true, true, false, false, false, false, false] rfl rfl (by kernel_rfl) (fun _ _ _ h => h) (Or.inl ⟨by rfl, ?_⟩) hHeld ?_ ?_
      rotate_left
      · intro w' hs_; obtain ⟨s0, s1, s2, s3, s4, s5, s6, s7⟩ := hs_
        go_simp
        with_reducible rfl
      rotate_left
      · simp only [Act.put, List.setIfInBounds_toArray, List.set_cons_zero, List.set_cons_succ, i64_w, i32_w]
        rfl
      refine pure_ (i := 7) (N := some 34) (v := ?_) (a' := ?_) #[true, true, true, true, true, true, true, true, false, false, false, false] rfl rfl (by kernel_rfl) (fun _ _ _ h => h) (Or.inl ⟨by rfl, ?_⟩) ?_ ?_
      rotate_left
      · intro w'
        go_simp
        with_reducible rfl
      rotate_left
      · simp only [Act.put, List.setIfInBounds_toArray, List.set_cons_zero, List.set_cons_succ, i64_w, i32_w]
        rfl
      refine pure_ (i := 8) (N := some 35) (v := ?_) (a' := ?_) #[true, true, true, true, true, true, true, true, true, false, false, false] rfl rfl (by kernel_rfl) (fun _ _ _ h => h) (Or.inl ⟨by rfl, ?_⟩) ?_ ?_
      rotate_left
      · intro w'
        go_simp
        with_reducible rfl
      rotate_left
      · simp only [Act.put, List.setIfInBounds_toArray, List.set_cons_zero, List.set_cons_succ, i64_w, i32_w]
        rfl
      refine take_ (i := 9) (N := some 36) (v := ?_) (a' := ?_) #[true, true, true, true, true, true, true, true, true, true, false, false] rfl rfl (by kernel_rfl) (fun _ _ _ h => h) (Or.inl ⟨by rfl, ?_⟩) hHeld ?_ ?_
      rotate_left
      · intro w' hs_; obtain ⟨s0, s1, s2, s3, s4, s5, s6, s7⟩ := hs_
        go_simp
        with_reducible rfl
      rotate_left
      · simp only [Act.put, List.setIfInBounds_toArray, List.set_cons_zero, List.set_cons_succ, i64_w, i32_w]
        rfl
      refine one_ (i := 10) (N := some 37) #[true, true, true, true, true, true, true, true, true, true, true, false] rfl rfl (by kernel_rfl) (by decide) (fun K hK => ?_)
      refine goes_ Try.func14 (by kernel_rfl) rfl #[.agg #[.int .i64 s, .int .i64 t, .slice A3 k c3], .agg #[.int .i64 s, .int .i64 t, .slice A4 k c4]] (by rfl) rfl rfl (by (try simp only [List.map_toArray, List.map_cons, List.map_nil]); first | done | rfl) ?_
      with_reducible refine (unhide hsr).mono ?_
      rintro e w6 ⟨rfl, hb6⟩
      have k6 : Below wr.heap.size wr w6 := Below.trans (Below.drew (Below.refl wr.heap.size wr)) hb6
      refine ⟨_, rfl, hK.out _ _ (keep0 _ k6) (fun hHeld => ?_)⟩
      clear hK K
      refine norm_ (a' := ?_) ?_ ?_
      rotate_left
      · show Act.put _ (some 37) _ = _
        simp only [Act.put, List.setIfInBounds_toArray, List.set_cons_zero, List.set_cons_succ, i64_w, i32_w]
        rfl
      refine pure_ (i := 11) (N := some 38) (v := ?_) (a' := ?_) #[true, true, true, true, true, true, true, true, true, true, true, true] rfl rfl (by kernel_rfl) (fun _ _ _ h => h) (Or.inl ⟨by rfl, ?_⟩) ?_ ?_
      rotate_left
      · intro w'
        go_simp
        with_reducible rfl
      rotate_left
      · simp only [Act.put, List.setIfInBounds_toArray, List.set_cons_zero, List.set_cons_succ, i64_w, i32_w]
        rfl
      refine done_ (by kernel_rfl) ?_
      -- }SAME
      have hbw := hb.trans (k6.mono hz)
      have e0 := (k6.block P (Array.getElem?_eq_some_iff.1 (unhide g0)).1).trans (unhide g0)
      have e1 := (k6.block (P + 1) (Array.getElem?_eq_some_iff.1 (unhide g1)).1).trans (unhide g1)
      clear keep0
      replace e0 := hide e0
      replace e1 := hide e1
      go_wp2_with fail
      go_roundw
      case rel => exact ⟨i + 1, by omega, by go_num, hbw, e0, e1⟩
      case measure => simp [intOf]; omega
    · obtain rfl : i = n := by omega
      have hinI : ¬ (i : Int) < i := by omega
      go_wp2_with fail
      go_ret
      exact ⟨rfl, hb⟩
end Go.Proofs.Ytodbmgafejclmaa.Base
