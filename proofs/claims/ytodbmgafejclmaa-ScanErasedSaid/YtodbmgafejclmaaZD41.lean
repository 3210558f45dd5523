/-
  Parts of a proof, laid together by a program of mine (pack.py): Mq.
-/
import Derived.Test.YtodbmgafejclmaaZD40
namespace Go.Proofs.Ytodbmgafejclmaa.Base
open Go.RowKit Go.Maps Go.Proofs.YtodbmgafejclmaaW.PrintWords Go.Proofs.YtodbmgafejclmaaW.PrintLast
set_option linter.unusedSimpArgs false
set_option linter.unusedVariables false
attribute [local go_sem] Ent.arr0 Ent.arr1 Ent.arr2 Ent.set1 Ent.set2 Ent.arr_size Ent.okW Ent.lit run_ldV_ent run_stV_ent ldR_some stR_true rd_new_whole rd_alloc canW_new canW_alloc wr_new wr_alloc rd_drew rd_drewN canW_drew canW_drewN run_bsS_ent run_bsS_ent0 run_eqI_ent rd_setCell rd_setCell_same canW_setCell' Option.map_some cell_wr_other rd_wr_same rd_wr_other
attribute [local go_sem ↓] ldV_ent stV_ent bsS_ent eqI_ent
attribute [local go_sem] Ent.arr0g Ent.arr1g Ent.arr2g run_ldV_dat rd_dat run_eqI_dat dat_lit
attribute [local go_sem ↓] ldV_dat eqI_dat
attribute [local go_sem] run_bdE4 run_bdE3 run_bdE1 run_bdE0 size_wr
attribute [local go_sem ↓] build_ent
/-- the document's row, its bytes in new blocks -/
theorem rencode_rowL (d : Int) (m : Nat) (s u a : Int) (A : Option Addr) (c n : Nat) (es : List Ent) (w : World) (hd : d = m + 2) (hm : 4 ≤ m ∧ m ≤ 6) (hs : 1 ≤ s ∧ s ≤ 1099511627776) (hu : 0 ≤ u ∧ u ≤ 255) (ha : 0 ≤ a ∧ a ≤ 255) (hn : n = es.length) (hl : n ≤ m) (hwf : ∀ e ∈ es, e.Wf) (hok : ∀ e ∈ es, OkE e) (hc : n ≤ c) (hs0 : Sl w 0 w.heap.size 19 A (es.map Ent.arr)) :
    Calls Try.prog 17 #[.int .i64 d, .int .i64 s, .int .i64 u, .int .i64 a, .slice A n c] w fun x w' => ∃ A' c', x = .returned (.tuple #[.slice A' (m + 2) c', .int .i64 0]) ∧ m + 2 ≤ c' ∧ RC w' A' (m + 2) (fullE s u a es m) ∧
      (∀ j, j < m + 2 → ∀ ad A0 l0 c0, A' = some ad → w'.cell? (ad.add j) = some (.slice A0 l0 c0) → ∀ a, A0 = some a → w.heap.size ≤ a.block) ∧ Below w.heap.size w w' := by
  subst hn
  obtain rfl : d = ((m + 2 : Nat) : Int) := by omega
  refine (rencode_low (m + 2) m s u a A c es _ _ w ⟨by omega, by omega⟩ rfl hs hu ha hl hwf hok hc hs0 (by rw [(sum_len _ _).1]; omega) (by rw [(sum_len _ _).2]; omega) (par_ref s u a es m hwf (by omega) (by omega))).mono ?_
  rintro x w' ⟨⟨A', c', T, rfl, hc', hT, hL, hlow⟩, hb⟩
  have hTl : T.length = m + 2 := by
    have := congrArg List.length hL
    rw [List.length_map, List.length_append, rowsE_len] at this
    simpa using this
  obtain ⟨_, _, hC⟩ := RC.of_rws hT (by omega)
  rw [hL] at hC
  refine ⟨A', c', rfl, hc', hC, ?_, hb⟩
  rintro j hj ad A0 l0 c0 rfl hcell a' ha'
  have h0 := hT.1
  rw [hTl] at h0
  rcases h0.2 with ⟨hv, hz⟩ | ⟨g, cap, cur, hv, h1, h2, h3⟩
  · omega
  · injection hv with e1 e2 e3
    injection e1 with e1
    subst e1
    have hcl := h0.cellAt j (by omega)
    rw [Addr.add_mid, Nat.zero_add, hcl, List.getElem?_map, List.getElem?_eq_getElem (by omega)] at hcell
    simp only [Option.map_some, Option.some.injEq, Hr.cell, Value.slice.injEq] at hcell
    exact hlow T[j] (List.getElem_mem _) a' (hcell.1.trans ha')
def sealE : Ent := ⟨3, 0, 0, fun _ => 0⟩
/-- the i-th slot of a superblock's k-th row -/
def mkE (es : List Ent) (m k : Nat) (last : Bool) (i : Nat) : Ent := if last = true then sealE else if es = [] then zeroE else goodE (es.getD ((k * m + i) % es.length) zeroE)
def mkS (es : List Ent) (m k : Nat) (last : Bool) : List Ent := (List.range m).map (mkE es m k last)
theorem mkS_len (es : List Ent) (m k : Nat) (last : Bool) : (mkS es m k last).length = m := by simp [mkS]
theorem okE_seal : OkE sealE := ⟨by decide, by decide, by rw [if_neg (by decide)]; exact ⟨rfl, rfl⟩, fun _ _ => rfl⟩
theorem wf_seal : sealE.Wf := ⟨⟨by decide, by decide⟩, ⟨by decide, by decide⟩, ⟨by decide, by decide⟩, fun _ => ⟨(by decide : (0:Int) ≤ 0), (by decide : (0:Int) < 256)⟩⟩
theorem mkS_ok {es : List Ent} (h : ∀ e ∈ es, e.Wf) (m k : Nat) (last : Bool) : (∀ e ∈ mkS es m k last, e.Wf) ∧ ∀ e ∈ mkS es m k last, OkE e := by
  have key : ∀ i, (mkE es m k last i).Wf ∧ OkE (mkE es m k last i) := fun i => by
    unfold mkE
    split
    · exact ⟨wf_seal, okE_seal⟩
    · split
      · exact ⟨wf_zero, okE_zero⟩
      · rename_i hne
        have hpos : 0 < es.length := List.length_pos_iff.2 hne
        have hw : (es.getD ((k * m + i) % es.length) zeroE).Wf := by
          rw [List.getD_eq_getElem?_getD, List.getElem?_eq_getElem (Nat.mod_lt _ hpos)]
          exact h _ (List.getElem_mem _)
        exact ⟨goodE_wf hw, goodE_ok hw⟩
  constructor
  · intro e he
    obtain ⟨i, _, rfl⟩ := List.mem_map.1 he
    exact (key i).1
  · intro e he
    obtain ⟨i, _, rfl⟩ := List.mem_map.1 he
    exact (key i).2
def blankR (n : Nat) : List Pg := List.replicate n blankPg
def blankA (n : Nat) : Array Value := (flat ((blankR n).map Pg.arr)).toArray
set_option maxRecDepth 100000 in
theorem run_mkpg (m : Nat) (hm : 4 ≤ m ∧ m ≤ 6) (w : World) : (Instr.makeSlice 33 (.int .i64 ((m : Int) + 2)) (.int .i64 ((m : Int) + 2))).run Try.prog w = .ok (.slice (some ⟨w.heap.size, 0, none⟩) (m + 2) (m + 2)) (w.alloc (.cells (blankA (m + 2)) 35)) := by
  obtain rfl | rfl | rfl : m = 4 ∨ m = 5 ∨ m = 6 := by omega
  · kernel_rfl
  · kernel_rfl
  · kernel_rfl
theorem cell_new1 (w : World) (v : Value) (t : TypeId) : (w.alloc (.cells #[v] t)).cell? ⟨w.heap.size, 0, none⟩ = some v := by
  have h := heap_alloc_new w (.cells #[v] t)
  unfold World.cell?
  simp only
  rw [h]
  rfl
theorem blankR_ok (w : World) (n : Nat) (h1 : n ≤ 1000) (h0 : 0 < n) : PrOk (w.alloc (.cells (blankA n) 35)) (some ⟨w.heap.size, 0, none⟩, n, blankR n) := by
  refine ⟨by simp [blankR], by simp [blankR]; exact h1, fun p hp => ?_, ?_, fun p hp => ?_⟩
  · rw [List.eq_of_mem_replicate hp]; exact (⟨by decide, by decide⟩ : I64 0)
  · exact Sl.of_block (heap_alloc_new _ _) (Nat.zero_le _) (by simp) (Pg.sized _) (fun j v h => by rw [Nat.zero_add]; unfold blankA; simpa using h) (by omega)
  · rw [List.eq_of_mem_replicate hp]; exact PgOk.bad _ 0
theorem getD_app_lt {α : Type} {T : List α} {x d : α} {j : Nat} (h : j < T.length) : (T ++ [x]).getD j d = T.getD j d := by
  rw [List.getD_eq_getElem?_getD, List.getD_eq_getElem?_getD, List.getElem?_append_left h]
theorem getD_app_eq {α : Type} {T : List α} {x d : α} {j : Nat} (h : T.length = j) : (T ++ [x]).getD j d = x := by
  subst h
  simp [List.getD_eq_getElem?_getD]
/-- what a row's pages are -/
noncomputable def mkRow (u : Int) (m : Nat) (R : Int) (N : Nat) (es : List Ent) (k : Nat) : List Qg :=
  if R ≤ (k : Int) then List.replicate (m + 2) (0, []) else pagesQ (fullE (10 + k) u k (mkS es m k (decide (k + 1 = N))) m) []
set_option maxRecDepth 100000 in
set_option maxHeartbeats 800000 in
theorem make_any (u d R Ni : Int) (m N n c : Nat) (A : Option Addr) (es : List Ent) (w : World) (hd : d = (m : Int) + 2) (hNi : Ni = N) (hm : 4 ≤ m ∧ m ≤ 6) (hN8 : N ≤ 8) (hu : 0 ≤ u ∧ u ≤ 255) (hR : I64 R) (hn : n = es.length) (hn30 : n ≤ 30) (hc : n ≤ c) (hs : Sl w 0 w.heap.size 19 A (es.map Ent.arr)) (hwf : ∀ e ∈ es, e.Wf) :
    Calls Try.prog 11 #[.int .i64 u, .int .i64 d, .int .i64 R, .int .i64 Ni, .slice A n c] w fun x w' => ∃ A' c' T, x = .returned (.slice A' N c') ∧ N ≤ c' ∧ T.length = N ∧ (∀ k, k < N → (pgsOf T k).map qOf = mkRow u m R N es k) ∧ Pn w' w.heap.size (.slice A' N c') T ∧ Below w.heap.size w w' := by
  subst hd hNi
  have hn' := hide hn
  clear hn
  have hwf' := hide hwf
  clear hwf
  have hmk := run_mkpg m hm
  go_enter Try.func11, Try.ntmps11
  go_wp2_with fail
  go_loopw [11, 12] (fun s11 s12 wr => ∃ (k : Nat) (A2 : Option Addr) (c2 : Nat) (T : List PR), k ≤ N ∧ s12 = .int .i64 k ∧ s11 = .slice A2 k c2 ∧ k ≤ c2 ∧ Hid (T.length = k) ∧ Hid (∀ j, j < k → (pgsOf T j).map qOf = mkRow u m R N es j) ∧ Pn wr w.heap.size (.slice A2 k c2) T ∧ Below w.heap.size w wr) (fun _ s12 _ => N - (intOf s12).toNat)
  case atStart => exact ⟨0, none, 0, [], by omega, rfl, rfl, Nat.le_refl _, rfl, fun j hj => by omega, Pn.nil _ _, Below.refl _ _⟩
  case round =>
    obtain ⟨k, A2, c2, T, hk, rfl, rfl, hc2, hT, hq, ho, hb⟩ := hrel
    have hz := hb.size
    by_cases hkN : k < N
    · have hkI : (k : Int) < N := by omega
      by_cases hRk : R ≤ (k : Int)
      · obtain ⟨W1, hW1⟩ : ∃ W1, W1 = wr.alloc (.cells (blankA (m + 2)) 35) := ⟨_, rfl⟩
        have z1 : W1.heap.size = wr.heap.size + 1 := by rw [hW1]; simp
        have hb1 : Below wr.heap.size wr W1 := by rw [hW1]; exact (Below.refl _ _).alloc (Nat.le_refl _) _
        have hr1 : PrOk W1 (some ⟨wr.heap.size, 0, none⟩, m + 2, blankR (m + 2)) := by rw [hW1]; exact blankR_ok wr (m + 2) (by omega) (by omega)
        have hb2 := (Below.refl W1.heap.size W1).alloc (Nat.le_refl _) (.cells #[.slice (some ⟨wr.heap.size, 0, none⟩) (m + 2) (m + 2)] 33)
        have hcl : (PR.cell (some ⟨wr.heap.size, 0, none⟩, m + 2, blankR (m + 2))) = .slice (some ⟨wr.heap.size, 0, none⟩) (m + 2) (m + 2) := by simp [PR.cell, blankR]
        have hown : ∀ g, (Value.slice A2 k c2).ownBlock = some g → g < wr.heap.size := fun g hg => (ho.1.lt g hg).2
        obtain ⟨A3, c3, w3, hrun, ho3, hg3, hc3⟩ := Pn.app (W1.alloc (.cells #[.slice (some ⟨wr.heap.size, 0, none⟩) (m + 2) (m + 2)] 33)) w.heap.size k (.slice A2 k c2) T ((ho.below hb1).below hb2) (unhide hT) (some ⟨wr.heap.size, 0, none⟩, m + 2, blankR (m + 2)) ⟨W1.heap.size, 0, none⟩ (by rw [hcl]; exact cell_new1 _ _ _) (hr1.below hb2)
          ⟨fun a ha => by cases ha; exact ⟨by simp; omega, fun e => by have := hown _ e.symm; simp at this⟩, fun p hp a ha => by rw [List.eq_of_mem_replicate hp] at ha; cases ha⟩ (by omega) (by simp; omega) 27
        have hb3 : Below w.heap.size w w3 := below_grown ((hb.trans (hb1.mono hz)).trans (hb2.mono (by omega))) hg3 (by simp; omega) (fun j e => (ho.1.lt j e).1)
        have hT3 : (T ++ [((some ⟨wr.heap.size, 0, none⟩, m + 2, blankR (m + 2)) : PR)]).length = k + 1 := by rw [List.length_append, unhide hT]; rfl
        have hq3 : ∀ j, j < k + 1 → (pgsOf (T ++ [((some ⟨wr.heap.size, 0, none⟩, m + 2, blankR (m + 2)) : PR)]) j).map qOf = mkRow u m R N es j := by
          intro j hj
          by_cases hjk : j < k
          · rw [← (unhide hq) j hjk]; unfold pgsOf; rw [getD_app_lt (by rw [unhide hT]; exact hjk)]
          · obtain rfl : j = k := by omega
            unfold pgsOf mkRow
            rw [getD_app_eq (unhide hT), if_pos hRk]
            simp [blankR, qOf, blankPg]
        subst hW1
        rw [z1] at hrun
        replace hT3 := hide hT3
        replace hq3 := hide hq3
        clear hr1 hb1 hb2 hcl hown hg3 ho hT hq z1
        go_wp2_with (at_builtin; refine wpList_step (fun K hK => step_append_ex (o := ⟨some 30, _, _, _, _, _⟩) (.tmp 26) (.tmp 29) 27 rfl (by rfl) ?_); (with_reducible refine app_ex hrun ?_ (hK _ _ ?_)); rfl)
        go_roundw
        case rel => exact ⟨k + 1, A3, c3, _, by omega, by go_num, rfl, hc3, hT3, hq3, ho3, hb3⟩
        case measure => simp [intOf]; omega
      · have hRn : ¬ R ≤ (k : Int) := hRk
        obtain ⟨L, hL⟩ : ∃ L, L = mkS es m k (decide (k + 1 = N)) := ⟨_, rfl⟩
        have hLl : L.length = m := by rw [hL]; exact mkS_len _ _ _ _
        have hLat : ∀ i, i < m → L.take (i + 1) = L.take i ++ [mkE es m k (decide (k + 1 = N)) i] := fun i hi => by
          rw [List.take_succ_eq_append_getElem (by omega)]
          congr 2
          simp [hL, mkS]
        have hLok := mkS_ok (unhide hwf') m k (decide (k + 1 = N))
        rw [← hL] at hLok
        have hL' := hide hL
        clear hL
        replace hLat := hide hLat
        replace hLl := hide hLl
        replace hLok := hide hLok
        have hsR := (hs.below hb).more hz
        clear hmk
        go_wp2_with fail
        go_loopw [13, 14] (fun s13 s14 wi => ∃ (i : Nat) (A3 : Option Addr) (c3 : Nat), i ≤ m ∧ s14 = .int .i64 i ∧ s13 = .slice A3 i c3 ∧ i ≤ c3 ∧ Ow wi wr.heap.size 54 19 (.slice A3 i c3) ((L.take i).map Ent.arr) ∧ Below wr.heap.size wr wi) (fun _ s14 _ => m - (intOf s14).toNat)
        case atStart => exact ⟨0, none, 0, by omega, rfl, rfl, Nat.le_refl _, by simpa using Ow.nil wr wr.heap.size 54 19, Below.refl _ _⟩
        case round =>
          rename World => wi
          obtain ⟨i, A3, c3, hi, rfl, rfl, hc3, ho3, hb3⟩ := hrel
          have hz3 := hb3.size
          by_cases him : i < m
          · have hiI : (i : Int) < m := by omega
            -- FOUR{
            by_cases hn0 : n = 0
            · have hes0 : es = [] := List.eq_nil_of_length_eq_zero (by have := unhide hn'; omega)
              replace hes0 := hide hes0
              have hnI : (n : Int) ≤ 0 := by omega
              replace hn0 := hide hn0
              by_cases hla : k + 1 = N
              ·
                have hX : mkE es m k (decide (k + 1 = N)) i = sealE := by unfold mkE; rw [if_pos (by simpa using hla)]
                have hb4 : Below wi.heap.size wi (wi.alloc (.cells sealE.arr 54)) := (Below.refl _ _).alloc (Nat.le_refl _) _
                have hz4 := hb4.size
                simp only [World.size_alloc, size_wr] at hz4
                have ho4 := ho3.below hb4 (fun g hg => (ho3.lt g hg).2)
                obtain ⟨A5, c5, w5, hrun, ho5, hg5, hc5⟩ := run_append_ents ((wi.alloc (.cells sealE.arr 54)).alloc (.cells (sealE).arr 54)) wr.heap.size i (.slice A3 i c3) (L.take i) [sealE] (ho4.alloc _) (by rw [List.length_take, unhide hLl]; omega) 0 ((wi.alloc (.cells sealE.arr 54)).heap.size + 1) (some ⟨(wi.alloc (.cells sealE.arr 54)).heap.size, 0, none⟩) 1 1 (Sl.one (rd_new_whole _ _ _ _ _ _ rfl (Ent.arr_size _).symm) (Nat.zero_le _) (Nat.lt_succ_self _)) rfl (by omega) (by simp only [World.size_alloc, size_wr]; omega) 22
                have hb5 : Below wr.heap.size wr w5 := below_grown ((hb3.trans (hb4.mono hz3)).alloc (by simp only [World.size_alloc, size_wr]; omega) _) hg5 (by simp only [World.size_alloc, size_wr]; omega) (fun j ek => ((ho4.alloc (.cells (sealE).arr 54)).lt j ek).1)
                rw [← hX, ← (unhide hLat) i him] at ho5
                replace ho5 := hide ho5
                replace hX := hide hX
                clear hg5 ho4 ho3 hb4 hz4
                simp only [World.size_alloc, size_wr] at hrun
                go_wp2_with (at_builtin; refine wpList_step (fun K hK => step_append_ex (o := ⟨some 62, _, _, _, _, _⟩) (.tmp 59) (.tmp 61) 22 rfl (by rfl) ?_); (with_reducible refine app_ex hrun ?_ (hK _ _ ?_)); rfl)
                go_roundw
                case rel => exact ⟨i + 1, A5, c5, by omega, by go_num, rfl, hc5, unhide ho5, hb5⟩
                case measure => simp [intOf]; omega
              ·
                have hX : mkE es m k (decide (k + 1 = N)) i = zeroE := by unfold mkE; rw [if_neg (by simpa using hla), if_pos (unhide hes0)]
                have hb4 : Below wi.heap.size wi (wi.alloc (.cells zeroE.arr 54)) := (Below.refl _ _).alloc (Nat.le_refl _) _
                have hz4 := hb4.size
                simp only [World.size_alloc, size_wr] at hz4
                have ho4 := ho3.below hb4 (fun g hg => (ho3.lt g hg).2)
                obtain ⟨A5, c5, w5, hrun, ho5, hg5, hc5⟩ := run_append_ents ((wi.alloc (.cells zeroE.arr 54)).alloc (.cells (zeroE).arr 54)) wr.heap.size i (.slice A3 i c3) (L.take i) [zeroE] (ho4.alloc _) (by rw [List.length_take, unhide hLl]; omega) 0 ((wi.alloc (.cells zeroE.arr 54)).heap.size + 1) (some ⟨(wi.alloc (.cells zeroE.arr 54)).heap.size, 0, none⟩) 1 1 (Sl.one (rd_new_whole _ _ _ _ _ _ rfl (Ent.arr_size _).symm) (Nat.zero_le _) (Nat.lt_succ_self _)) rfl (by omega) (by simp only [World.size_alloc, size_wr]; omega) 22
                have hb5 : Below wr.heap.size wr w5 := below_grown ((hb3.trans (hb4.mono hz3)).alloc (by simp only [World.size_alloc, size_wr]; omega) _) hg5 (by simp only [World.size_alloc, size_wr]; omega) (fun j ek => ((ho4.alloc (.cells (zeroE).arr 54)).lt j ek).1)
                rw [← hX, ← (unhide hLat) i him] at ho5
                replace ho5 := hide ho5
                replace hX := hide hX
                clear hg5 ho4 ho3 hb4 hz4
                simp only [World.size_alloc, size_wr] at hrun
                go_wp2_with (at_builtin; refine wpList_step (fun K hK => step_append_ex (o := ⟨some 62, _, _, _, _, _⟩) (.tmp 59) (.tmp 61) 22 rfl (by rfl) ?_); (with_reducible refine app_ex hrun ?_ (hK _ _ ?_)); rfl)
                go_roundw
                case rel => exact ⟨i + 1, A5, c5, by omega, by go_num, rfl, hc5, unhide ho5, hb5⟩
                case measure => simp [intOf]; omega
            · have hes0 : es ≠ [] := fun e => by have := unhide hn'; rw [e] at this; exact hn0 this
              replace hes0 := hide hes0
              have hnI : (0 : Int) < n := by omega
              obtain ⟨q, hq⟩ : ∃ q, q = (k * m + i) % n := ⟨_, rfl⟩
              have hqn : q < n := by rw [hq]; exact Nat.mod_lt _ (by omega)
              have hqI : (q : Int) < n := by omega
              have hq0 : (0 : Int) ≤ q := by omega
              have hkm : k * m ≤ 48 := Nat.le_trans (Nat.mul_le_mul (show k ≤ 8 by omega) hm.2) (by decide)
              obtain ⟨km, hkme⟩ : ∃ km : Nat, (k : Int) * (m : Int) = (km : Int) := ⟨k * m, by push_cast; rfl⟩
              have hkm2 : k * m = km := by exact_mod_cast hkme
              have hkmI : (km : Int) ≤ 48 := by omega
              have hmod : ((km : Int) + (i : Int)).tmod (n : Int) = (q : Int) := by
                rw [hq, hkm2, Int.tmod_eq_emod_of_nonneg (by omega)]
                push_cast
                rfl
              have hql : q < es.length := by rw [← unhide hn']; exact hqn
              obtain ⟨b, o, rfl, _, hbl, hr⟩ := hsR.at_ (k := q) (by simpa using hql)
              simp only [List.getElem_map] at hr
              have hr2 := (rd_below hb3 hbl _ _).trans hr
              obtain ⟨e, he⟩ : ∃ e, e = es[q] := ⟨_, rfl⟩
              have hew : e.Wf := by rw [he]; exact (unhide hwf') _ (List.getElem_mem hql)
              have heg : es.getD ((k * m + i) % es.length) zeroE = e := by rw [← unhide hn', ← hq, he, List.getD_eq_getElem?_getD, List.getElem?_eq_getElem hql]; rfl
              rw [← he] at hr2
              clear he hr hkm hq hkm2
              replace heg := hide heg
              have hbi : b < wi.heap.size := by omega
              have hcon := fun W => good_any e W hew.1 hew.2.1 hew.2.2.1
              clear hew
              by_cases hla : k + 1 = N
              ·
                have hkl : ((k : Int) == (N : Int) - 1) = true := by simp; omega
                go_wp2_with fail
                refine (hcon _).mono ?_
                rintro x w3 ⟨rfl, hb3'⟩
                have hw3 : Below wi.heap.size wi w3 := ((Below.refl _ _).alloc (Nat.le_refl _) _).trans (hb3'.mono (by simp only [World.size_alloc]; omega))
                have hcw : canW w3 wi.heap.size 0 19 = true := (canW_below hb3' (by simp only [World.size_alloc]; omega) _ _).trans (canW_new _ _ _ _ _ _ rfl (by rw [Ent.arr_size]; omega))
                have hcw2 : canW (Base.wr w3 wi.heap.size 0 (goodE e).arr) wi.heap.size 0 19 = true := (canW_wr _ _ _ _ _ _ _ (by rw [Ent.arr_size]; exact hcw)).trans hcw
                clear hb3' hcon hr2 hkme hmod hkmI
                have hX : mkE es m k (decide (k + 1 = N)) i = sealE := by unfold mkE; rw [if_pos (by simpa using hla)]
                have hb4 : Below wi.heap.size wi (Base.wr (Base.wr w3 wi.heap.size 0 (goodE e).arr) wi.heap.size 0 sealE.arr) := below_wr (below_wr hw3 (Nat.le_refl _) _ _) (Nat.le_refl _) _ _
                have hz4 := hb4.size
                simp only [World.size_alloc, size_wr] at hz4
                have ho4 := ho3.below hb4 (fun g hg => (ho3.lt g hg).2)
                obtain ⟨A5, c5, w5, hrun, ho5, hg5, hc5⟩ := run_append_ents ((Base.wr (Base.wr w3 wi.heap.size 0 (goodE e).arr) wi.heap.size 0 sealE.arr).alloc (.cells (sealE).arr 54)) wr.heap.size i (.slice A3 i c3) (L.take i) [sealE] (ho4.alloc _) (by rw [List.length_take, unhide hLl]; omega) 0 ((Base.wr (Base.wr w3 wi.heap.size 0 (goodE e).arr) wi.heap.size 0 sealE.arr).heap.size + 1) (some ⟨(Base.wr (Base.wr w3 wi.heap.size 0 (goodE e).arr) wi.heap.size 0 sealE.arr).heap.size, 0, none⟩) 1 1 (Sl.one (rd_new_whole _ _ _ _ _ _ rfl (Ent.arr_size _).symm) (Nat.zero_le _) (Nat.lt_succ_self _)) rfl (by omega) (by simp only [World.size_alloc, size_wr]; omega) 22
                have hb5 : Below wr.heap.size wr w5 := below_grown ((hb3.trans (hb4.mono hz3)).alloc (by simp only [World.size_alloc, size_wr]; omega) _) hg5 (by simp only [World.size_alloc, size_wr]; omega) (fun j ek => ((ho4.alloc (.cells (sealE).arr 54)).lt j ek).1)
                rw [← hX, ← (unhide hLat) i him] at ho5
                replace ho5 := hide ho5
                replace hX := hide hX
                clear hg5 ho4 ho3 hb4 hz4
                simp only [World.size_alloc, size_wr] at hrun
                go_wp2_with (at_builtin; refine wpList_step (fun K hK => step_append_ex (o := ⟨some 62, _, _, _, _, _⟩) (.tmp 59) (.tmp 61) 22 rfl (by rfl) ?_); (with_reducible refine app_ex hrun ?_ (hK _ _ ?_)); rfl)
                go_roundw
                case rel => exact ⟨i + 1, A5, c5, by omega, by go_num, rfl, hc5, unhide ho5, hb5⟩
                case measure => simp [intOf]; omega
              ·
                have hkl : ((k : Int) == (N : Int) - 1) = false := by simp; omega
                go_wp2_with fail
                refine (hcon _).mono ?_
                rintro x w3 ⟨rfl, hb3'⟩
                have hw3 : Below wi.heap.size wi w3 := ((Below.refl _ _).alloc (Nat.le_refl _) _).trans (hb3'.mono (by simp only [World.size_alloc]; omega))
                have hcw : canW w3 wi.heap.size 0 19 = true := (canW_below hb3' (by simp only [World.size_alloc]; omega) _ _).trans (canW_new _ _ _ _ _ _ rfl (by rw [Ent.arr_size]; omega))
                have hcw2 : canW (Base.wr w3 wi.heap.size 0 (goodE e).arr) wi.heap.size 0 19 = true := (canW_wr _ _ _ _ _ _ _ (by rw [Ent.arr_size]; exact hcw)).trans hcw
                clear hb3' hcon hr2 hkme hmod hkmI
                have hX : mkE es m k (decide (k + 1 = N)) i = goodE e := by unfold mkE; rw [if_neg (by simpa using hla), if_neg (unhide hes0), unhide heg]
                have hb4 : Below wi.heap.size wi (Base.wr w3 wi.heap.size 0 (goodE e).arr) := below_wr hw3 (Nat.le_refl _) _ _
                have hz4 := hb4.size
                simp only [World.size_alloc, size_wr] at hz4
                have ho4 := ho3.below hb4 (fun g hg => (ho3.lt g hg).2)
                obtain ⟨A5, c5, w5, hrun, ho5, hg5, hc5⟩ := run_append_ents ((Base.wr w3 wi.heap.size 0 (goodE e).arr).alloc (.cells (goodE e).arr 54)) wr.heap.size i (.slice A3 i c3) (L.take i) [goodE e] (ho4.alloc _) (by rw [List.length_take, unhide hLl]; omega) 0 ((Base.wr w3 wi.heap.size 0 (goodE e).arr).heap.size + 1) (some ⟨(Base.wr w3 wi.heap.size 0 (goodE e).arr).heap.size, 0, none⟩) 1 1 (Sl.one (rd_new_whole _ _ _ _ _ _ rfl (Ent.arr_size _).symm) (Nat.zero_le _) (Nat.lt_succ_self _)) rfl (by omega) (by simp only [World.size_alloc, size_wr]; omega) 22
                have hb5 : Below wr.heap.size wr w5 := below_grown ((hb3.trans (hb4.mono hz3)).alloc (by simp only [World.size_alloc, size_wr]; omega) _) hg5 (by simp only [World.size_alloc, size_wr]; omega) (fun j ek => ((ho4.alloc (.cells (goodE e).arr 54)).lt j ek).1)
                rw [← hX, ← (unhide hLat) i him] at ho5
                replace ho5 := hide ho5
                replace hX := hide hX
                clear hg5 ho4 ho3 hb4 hz4
                simp only [World.size_alloc, size_wr] at hrun
                go_wp2_with (at_builtin; refine wpList_step (fun K hK => step_append_ex (o := ⟨some 62, _, _, _, _, _⟩) (.tmp 59) (.tmp 61) 22 rfl (by rfl) ?_); (with_reducible refine app_ex hrun ?_ (hK _ _ ?_)); rfl)
                go_roundw
                case rel => exact ⟨i + 1, A5, c5, by omega, by go_num, rfl, hc5, unhide ho5, hb5⟩
                case measure => simp [intOf]; omega
            -- }FOUR
          · obtain rfl : i = m := by omega
            have hLt : L.take i = L := List.take_of_length_le (by rw [unhide hLl]; exact Nat.le_refl _)
            rw [hLt] at ho3
            have hsL : Sl wi 0 wi.heap.size 19 A3 (L.map Ent.arr) := (ho3.sl (Ent.sized _) (by omega)).less (Nat.zero_le _)
            have hen := rencode_rowL ((i : Int) + 2) i (10 + (k : Int)) u k A3 c3 i L wi rfl hm ⟨by omega, by omega⟩ hu ⟨by omega, by omega⟩ (unhide hLl).symm (Nat.le_refl _) (unhide hLok).1 (unhide hLok).2 hc3 hsL
            replace hLt := hide hLt
            have hiI : ¬ (i : Int) < i := by omega
            go_wp2_with fail
            (with_reducible refine hen.mono ?_)
            rintro x w4 ⟨A4, c4, rfl, hc4, hC4, hlw4, hb4⟩
            obtain ⟨ff1, ff2⟩ := full_fit (10 + (k : Int)) u k L i (unhide hLok).1
            have hpg := pages_low wi.heap.size A4 none c4 0 (i + 2) 0 _ [] w4 ff1.symm rfl hC4 hc4 ff2 (by omega) Sl.nil (by omega) (fun x hx => by simp at hx) hlw4
            clear hen hsL hlw4 hC4 ff1 ff2
            go_wp2_with fail
            (with_reducible refine hpg.mono ?_)
            rintro x w5 ⟨A5, c5, ps, rfl, hc5, hq5, hp5, ho5, hb5, hlp5⟩
            have hpl : ps.length = i + 2 := by
              have := congrArg List.length hq5
              rw [List.length_map, pagesQ_len, fullE, List.length_append, rowsE_len] at this
              exact this
            have hb45 : Below wr.heap.size wr w5 := (hb3.trans (hb4.mono hz3)).trans (hb5.mono (by have := hb4.size; omega))
            have hz5 := hb45.size
            have hb6 := (Below.refl w5.heap.size w5).alloc (Nat.le_refl _) (.cells #[.slice A5 (i + 2) c5] 33)
            obtain ⟨g5, rfl, hg51, hg52, hjunk⟩ := ho5.some_of (by omega)
            clear hjunk
            have hown : ∀ g, (Value.slice A2 k c2).ownBlock = some g → g < wr.heap.size := fun g hg => (ho.1.lt g hg).2
            have hcl : (PR.cell (some ⟨g5, 0, none⟩, c5, ps)) = .slice (some ⟨g5, 0, none⟩) (i + 2) c5 := by simp [PR.cell, hpl]
            have hr5 : PrOk w5 (some ⟨g5, 0, none⟩, c5, ps) := ⟨by show ps.length ≤ c5; omega, by show ps.length ≤ 1000; omega, pages_i64 hq5 (fun x hx => by simp at hx), (ho5.sl (Pg.sized _) (by omega)).less (Nat.zero_le _), hp5.below hb5⟩
            have hz34 : wi.heap.size ≤ w4.heap.size := hb4.size
            obtain ⟨A7, c7, w7, hrun, ho7, hg7, hc7⟩ := Pn.app (w5.alloc (.cells #[.slice (some ⟨g5, 0, none⟩) (i + 2) c5] 33)) w.heap.size k (.slice A2 k c2) T ((ho.below hb45).below hb6) (unhide hT) (some ⟨g5, 0, none⟩, c5, ps) ⟨w5.heap.size, 0, none⟩ (by rw [hcl]; exact cell_new1 _ _ _) (hr5.below hb6)
              ⟨fun a ha => by cases ha; exact ⟨by show g5 < _; rw [World.size_alloc]; omega, fun e => by have h2 : g5 < wr.heap.size := hown _ e.symm; omega⟩, fun p hp a ha e => by have h1 := hlp5 p hp a ha; have h2 := hown _ e.symm; omega⟩ (by omega) (by rw [World.size_alloc]; omega) 27
            have hb7 : Below w.heap.size w w7 := below_grown ((hb.trans (hb45.mono hz)).trans (hb6.mono (by omega))) hg7 (by rw [World.size_alloc]; omega) (fun j e => (ho.1.lt j e).1)
            have hT7 : (T ++ [((some ⟨g5, 0, none⟩, c5, ps) : PR)]).length = k + 1 := by rw [List.length_append, unhide hT]; rfl
            have hq7 : ∀ j, j < k + 1 → (pgsOf (T ++ [((some ⟨g5, 0, none⟩, c5, ps) : PR)]) j).map qOf = mkRow u i R N es j := by
              intro j hj
              by_cases hjk : j < k
              · rw [← (unhide hq) j hjk]; unfold pgsOf; rw [getD_app_lt (by rw [unhide hT]; exact hjk)]
              · obtain rfl : j = k := by omega
                unfold pgsOf mkRow
                rw [getD_app_eq (unhide hT), if_neg (by omega), ← unhide hL']
                exact hq5
            replace hT7 := hide hT7
            replace hq7 := hide hq7
            clear hg7 hr5 hcl hown ho hT hq hp5 hq5 hlp5 hpl ho5 hpg
            go_wp2_with (at_builtin; refine wpList_step (fun K hK => step_append_ex (o := ⟨some 77, _, _, _, _, _⟩) (.tmp 73) (.tmp 76) 27 rfl (by rfl) ?_); (with_reducible refine app_ex hrun ?_ (hK _ _ ?_)); rfl)
            go_roundw
            case rel => exact ⟨k + 1, A7, c7, _, by omega, by go_num, rfl, hc7, hT7, hq7, ho7, hb7⟩
            case measure => simp [intOf]; omega
    · obtain rfl : k = N := by omega
      go_wp2_with fail
      go_ret
      exact ⟨A2, c2, T, rfl, hc2, unhide hT, unhide hq, ho, hb⟩
end Go.Proofs.Ytodbmgafejclmaa.Base
