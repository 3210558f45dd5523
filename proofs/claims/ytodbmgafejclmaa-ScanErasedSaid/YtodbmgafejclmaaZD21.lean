/-
  Parts of a proof, laid together by a program of mine (pack.py): Ss.
-/
import Derived.Lib.SliceRun
import Derived.Test.YtodbmgafejclmaaZD20
namespace Go.Proofs.Ytodbmgafejclmaa.Base
open Go.RowKit Go.Maps Go.Proofs.YtodbmgafejclmaaW.PrintWords Go.Proofs.YtodbmgafejclmaaW.PrintLast
open Go.Proofs.Ytodbmgafejclmaa.Fld Go.Proofs.Ytodbmgafejclmaa.Pl
set_option linter.unusedSimpArgs false
set_option linter.unusedVariables false
attribute [local go_sem] Ent.arr0 Ent.arr1 Ent.arr2 Ent.set1 Ent.set2 Ent.arr_size Ent.okW Ent.lit run_ldV_ent run_stV_ent ldR_some stR_true rd_new_whole rd_alloc canW_new canW_alloc wr_new wr_alloc rd_drew rd_drewN canW_drew canW_drewN run_bsS_ent run_bsS_ent0 run_eqI_ent rd_setCell rd_setCell_same canW_setCell' Option.map_some cell_wr_other rd_wr_same rd_wr_other
attribute [local go_sem ↓] ldV_ent stV_ent bsS_ent eqI_ent
attribute [local go_sem] Ent.arr0g Ent.arr1g Ent.arr2g run_ldV_dat rd_dat run_eqI_dat dat_lit
attribute [local go_sem ↓] ldV_dat eqI_dat
attribute [local go_sem] run_bdE4 run_bdE3 run_bdE1 run_bdE0
attribute [local go_sem ↓] build_ent
attribute [local go_sem] canW_wr_other Hd.arr_size Hd.arr0 Hd.arr0g Hd.okW Hd.lit run_ldV_hd run_stV_hd run_bdHd4 run_bdHd0
attribute [local go_sem ↓] ldV_hd stV_hd build_hd
open Classical in
/-- a slot's bytes: head and update -/
noncomputable def parseB (b : List Int) : Option (Hd × Ent) :=
  if fineB (wrap64 (leN (b.take 8))) (rawE (at_ b 11) ((b.drop 12).take 8) ((b.drop 20).take 8) ((b.drop 28).take 16)) (b.drop 44)
  then some (⟨wrap64 (leN (b.take 8)), at_ b 8, at_ b 9, at_ b 10⟩, rawE (at_ b 11) ((b.drop 12).take 8) ((b.drop 20).take 8) ((b.drop 28).take 16)) else none
theorem at_drop {b : List Int} {i : Nat} (h : i < b.length) : b.drop i = at_ b i :: b.drop (i + 1) := by
  rw [List.drop_eq_getElem_cons h]
  congr 1
  unfold at_
  simp [h]
theorem raw_split {b : List Int} (h : b.length = 48) : b = rawB (b.take 8) (at_ b 8) (at_ b 9) (at_ b 10) (at_ b 11) ((b.drop 12).take 8) ((b.drop 20).take 8) ((b.drop 28).take 16) (b.drop 44) := by
  have e1 : b.drop 8 = at_ b 8 :: at_ b 9 :: at_ b 10 :: at_ b 11 :: b.drop 12 := by
    rw [at_drop (by omega), at_drop (i := 9) (by omega), at_drop (i := 10) (by omega), at_drop (i := 11) (by omega)]
  have e2 : b.drop 12 = (b.drop 12).take 8 ++ b.drop 20 := by
    have := (List.take_append_drop 8 (b.drop 12)).symm
    rwa [List.drop_drop] at this
  have e3 : b.drop 20 = (b.drop 20).take 8 ++ b.drop 28 := by
    have := (List.take_append_drop 8 (b.drop 20)).symm
    rwa [List.drop_drop] at this
  have e4 : b.drop 28 = (b.drop 28).take 16 ++ b.drop 44 := by
    have := (List.take_append_drop 16 (b.drop 28)).symm
    rwa [List.drop_drop] at this
  unfold rawB
  rw [← e4, ← e3, ← e2, ← e1]
  exact (List.take_append_drop 8 b).symm
theorem okB_at {b : List Int} (hb : OkB b) {i : Nat} (h : i < b.length) : 0 ≤ at_ b i ∧ at_ b i < 256 := by
  have : at_ b i = b[i] := by unfold at_; simp [h]
  rw [this]
  exact hb _ (List.getElem_mem h)
theorem parse_b (A : Option Addr) (c l : Nat) (b : List Int) (w : World) (hl : l = 48) (h48 : b.length = 48) (hb : OkB b) (hs : Sl w 0 w.heap.size 1 A (By b)) :
    Calls Try.prog 47 #[.slice A l c] w fun x w' => (x = .returned (match parseB b with | some (h, e) => .tuple #[.agg h.arr, .agg e.arr, .int .i64 0] | none => .tuple #[.agg Hd.zero.arr, .agg Ent.zero.arr, .int .i64 5])) ∧ Below w.heap.size w w' := by
  have hraw := raw_split h48
  have bt : ∀ n, OkB (b.take n) := fun n x hx => hb x (List.mem_of_mem_take hx)
  have bd : ∀ n, OkB (b.drop n) := fun n x hx => hb x (List.mem_of_mem_drop hx)
  have btd : ∀ n m, OkB ((b.drop n).take m) := fun n m x hx => bd n x (List.mem_of_mem_take hx)
  refine (parse_any A c (b.take 8) (at_ b 8) (at_ b 9) (at_ b 10) (at_ b 11) ((b.drop 12).take 8) ((b.drop 20).take 8) ((b.drop 28).take 16) (b.drop 44) l w hl (by simp; omega) (by simp; omega) (by simp; omega) (by simp; omega) (by simp; omega)
    (bt _) (okB_at hb (by omega)) (okB_at hb (by omega)) (okB_at hb (by omega)) (okB_at hb (by omega)) (btd _ _) (btd _ _) (btd _ _) (bd _) (by rw [← hraw]; exact hs)).mono ?_
  rintro x w' ⟨⟨h1, h2⟩, h3⟩
  refine ⟨?_, h3⟩
  unfold parseB
  by_cases h : fineB (wrap64 (leN (b.take 8))) (rawE (at_ b 11) ((b.drop 12).take 8) ((b.drop 20).take 8) ((b.drop 28).take 16)) (b.drop 44)
  · rw [if_pos h]; exact h1 h
  · rw [if_neg h]; exact h2 h
/-- slots, one behind the other: the row's number, its slots; from a place on -/
noncomputable def slotL (s a : Int) : Nat → Int → List (List Int) → List Ent → Option (Int × List Ent)
  | _, ser, [], acc => some (ser, acc)
  | i, ser, b :: bs, acc => match parseB b with
    | none => none
    | some (h, e) => if h = ⟨if i = 0 then h.a else ser, s, a, (i : Int)⟩ then slotL s a (i + 1) (if i = 0 then h.a else ser) bs (acc ++ [e]) else none
theorem eqI_hd (x y : Value) : Op.equalIn 10000 69 x y = eqI 69 x y := rfl
set_option maxRecDepth 100000 in
theorem run_eqI_hd (e f : Hd) (w : World) : (eqI 69 (.agg e.arr) (.agg f.arr)).run Try.prog w = .ok (decide (e = f)) w := by
  unfold eqI
  rw [run_equalIn_struct (P := Try.prog) w 9999 69 _ _ (by kernel_rfl) (by kernel_rfl)]
  simp only [Program.fieldsOf, Try.underlying69]
  have p0 := fun (e : Hd) => run_part_int Try.underlying3 e.arr0 w
  have p1 := fun (e : Hd) => run_part_int Try.underlying3 e.arr1 w
  have p2 := fun (e : Hd) => run_part_int Try.underlying3 e.arr2 w
  have p3 := fun (e : Hd) => run_part_int Try.underlying3 e.arr3 w
  have hd : (decide (e = f)) = (e.a == f.a && (e.b == f.b && (e.c == f.c && (e.d == f.d)))) := by
    rw [Bool.eq_iff_iff]
    simp only [decide_eq_true_iff, Bool.and_eq_true, beq_iff_eq]
    exact (Hd.ext_iff' e f).symm
  rw [hd]
  have i0 : ∀ (a b : Int) w, (Op.equalIn 9999 3 (.int .i64 a) (.int .i64 b)).run Try.prog w = .ok (a == b) w := fun a b w => run_equalIn_int w 9998 3 .i64 .i64 a b Try.underlying3
  simp only [Op.eqFields, Sem.run_bind, p0, p1, p2, p3, Result.andThen_ok, i0]
  by_cases h0 : e.a = f.a <;> by_cases h1 : e.b = f.b <;> by_cases h2 : e.c = f.c <;> by_cases h3 : e.d = f.d <;> simp [h0, h1, h2, h3, p0, p1, p2, p3, i0]
attribute [local go_sem] run_eqI_hd
attribute [local go_sem ↓] eqI_hd
set_option maxRecDepth 100000 in
set_option maxHeartbeats 1000000 in
theorem clone_any (A : Option Addr) (c n : Nat) (es : List Ent) (w : World) (hn : n = es.length) (hpos : 0 < n) (hc : n ≤ c) (hm : n ≤ 100000) (hs : Sl w 0 w.heap.size 19 A (es.map Ent.arr)) :
    Calls Try.prog 48 #[.slice A n c] w fun x w' => ∃ A' c', x = .returned (.slice A' n c') ∧ n ≤ c' ∧ Ow w' w.heap.size 54 19 (.slice A' n c') (es.map Ent.arr) ∧ Below w.heap.size w w' := by
  obtain ⟨b, o, rfl, _, _, _⟩ := hs.pos (by rw [List.length_map]; omega)
  obtain ⟨A', c', w', hrun, ho, hg, hc'⟩ := run_append_ents (w.alloc (.cells #[] 54)) w.heap.size 0 (.slice (some ⟨w.heap.size, 0, none⟩) 0 0) [] es (Ow.empty w _ _) rfl 0 w.heap.size _ n c (hs.alloc (Nat.le_refl _) _) hn.symm (by omega) (by simp) 22
  rw [Nat.zero_add, List.nil_append] at ho
  rw [Nat.zero_add] at hrun hc'
  have hb : Below w.heap.size w w' := below_grown ((Below.refl _ _).alloc (Nat.le_refl _) _) hg (by simp) (fun k ek => by simp only [Value.ownBlock, Option.some.injEq] at ek; omega)
  replace hn := hide hn
  clear hs
  have hq : ∀ (w : World) (a : Option Addr) (n c : Nat), (binOp .eql 22 (.slice a n c) (.slice none 0 0)).run Try.prog w = .ok (.bool a.isNone) w := fun w a n c => Lib.run_eql_slice_nil w _ _ a n c 0 0 Try.underlying22
  go_enter Try.func48, Try.ntmps48
  go_wp2_with (at_builtin; refine wpList_step (fun K hK => step_append_ex (o := ⟨some 7, _, _, _, _, _⟩) (.tmp 5) (.tmp 6) 22 rfl (by rfl) ?_); (with_reducible refine app_ex hrun ?_ (hK _ _ ?_)); rfl)
  go_ret
  exact ⟨A', c', rfl, hc', ho, hb⟩
/-- what stands while slots are read: the result's place, the row's, the slots so far -/
structure SlS (w0 : World) (P : Nat) (ser a : Int) (A4 : Option Addr) (j c4 : Nat) (es : List Ent) (wr : World) : Prop where
  below : Below w0.heap.size w0 wr
  le : w0.heap.size ≤ P
  e6 : wr.heap[P]? = some (.cells #[.int .i64 0, .int .i64 0, .slice none 0 0] 39 (0, 0))
  e8 : wr.heap[P + 1]? = some (.cells #[.int .i64 ser, .int .i64 a, .slice A4 j c4] 39 (0, 0))
  own : Ow wr (P + 2) 54 19 (.slice A4 j c4) (es.map Ent.arr)
  cap : j ≤ c4
  len : es.length = j
theorem SlS.lt {w0 : World} {P : Nat} {ser a : Int} {A4 : Option Addr} {j c4 : Nat} {es : List Ent} {wr : World} (h : SlS w0 P ser a A4 j c4 es wr) : P + 2 ≤ wr.heap.size := (Array.getElem?_eq_some_iff.1 h.e8).1
theorem SlS.on {w0 : World} {P : Nat} {ser a : Int} {A4 : Option Addr} {j c4 : Nat} {es : List Ent} {wr w' : World} (h : SlS w0 P ser a A4 j c4 es wr) (hb : Below wr.heap.size wr w') : SlS w0 P ser a A4 j c4 es w' :=
  have h1 := h.lt
  ⟨h.below.trans (hb.mono (by have := h.le; omega)), h.le, (hb.block _ (by omega)).trans h.e6, (hb.block _ (by omega)).trans h.e8, h.own.below hb (fun g e => (h.own.lt g e).2), h.cap, h.len⟩
theorem SlS.setSer {w0 : World} {P : Nat} {ser a : Int} {A4 : Option Addr} {j c4 : Nat} {es : List Ent} {wr : World} (h : SlS w0 P ser a A4 j c4 es wr) (v : Int) : SlS w0 P v a A4 j c4 es (wr.setCell ⟨P + 1, 0, none⟩ (.int .i64 v)) :=
  ⟨h.below.setCell (by show w0.heap.size ≤ P + 1; have := h.le; omega) _, h.le, (Below.heap_setCell _ _ _ _ (by show P ≠ P + 1; omega)).trans h.e6, heap_setCell_same _ _ _ _ _ _ h.e8, h.own.setCell (by show P + 1 < P + 2; omega) _, h.cap, h.len⟩
theorem SlS.app {w0 : World} {P : Nat} {ser a : Int} {A4 : Option Addr} {j c4 : Nat} {es : List Ent} {W : World} (h : SlS w0 P ser a A4 j c4 es W) (e : Ent) (hj : j ≤ 100) : ∃ A6 c6 w6,
    (Builtin.append_ #[22, 22] 22 #[.slice A4 j c4, .slice (some ⟨W.heap.size, 0, none⟩) 1 1]).run Try.prog (W.alloc (.cells e.arr 54)) = .ok (.slice A6 (j + 1) c6) w6 ∧ w6.cell? ⟨P + 1, 2, none⟩ = some (.slice A4 j c4) ∧ w6.frozen? ⟨P + 1, 2, none⟩ = false ∧
      SlS w0 P ser a A6 (j + 1) c6 (es ++ [e]) (w6.setCell ⟨P + 1, 2, none⟩ (.slice A6 (j + 1) c6)) := by
  have h1 := h.lt
  have h2 := h.le
  obtain ⟨A6, c6, w6, hrun, ho, hg, hc⟩ := run_append_ents (W.alloc (.cells e.arr 54)) (P + 2) j (.slice A4 j c4) es [e] (h.own.alloc _) h.len 0 (W.heap.size + 1) (some ⟨W.heap.size, 0, none⟩) 1 1 (Sl.one (rd_new_whole _ _ _ _ _ _ rfl (Ent.arr_size _).symm) (Nat.zero_le _) (Nat.lt_succ_self _)) rfl (by omega) (by simp; omega) 22
  have hne : ∀ k, k < P + 2 → some k ≠ (Value.slice A4 j c4).ownBlock := fun k hk e => by have := (h.own.lt k e.symm).1; omega
  have hk : ∀ k, k < P + 2 → w6.heap[k]? = W.heap[k]? := fun k hk => (hg.block k (by simp; omega) (hne k hk)).trans (Below.heap_alloc _ _ _ (by omega))
  have e8 := (hk (P + 1) (by omega)).trans h.e8
  have hb : Below w0.heap.size w0 w6 := below_grown (h.below.alloc (by omega) _) hg (by simp; omega) (fun k ek => by have := (h.own.lt k ek).1; omega)
  refine ⟨A6, c6, w6, hrun, by simp [World.cell?, e8], by simp [World.frozen?, e8], hb.setCell (by show w0.heap.size ≤ P + 1; omega) _, h2, (Below.heap_setCell _ _ _ _ (by show P ≠ P + 1; omega)).trans ((hk P (by omega)).trans h.e6), heap_setCell_same _ _ _ _ _ _ e8, ho.setCell (by show P + 1 < P + 2; omega) _, hc, by rw [List.length_append, h.len]; rfl⟩
def SlR (o : Option (Int × List Ent)) (a : Int) (w : World) (x : Ending) (w' : World) : Prop :=
  match o with
  | none => x = .returned (.tuple #[.agg #[.int .i64 0, .int .i64 0, .slice none 0 0], .int .i64 5])
  | some (ser, es) => ∃ A' c', x = .returned (.tuple #[.agg #[.int .i64 ser, .int .i64 a, .slice A' es.length c'], .int .i64 0]) ∧ es.length ≤ c' ∧ Ow w' w.heap.size 54 19 (.slice A' es.length c') (es.map Ent.arr)
set_option maxRecDepth 100000 in
set_option maxHeartbeats 4000000 in
theorem rslots_any (s a : Int) (A : Option Addr) (c n : Nat) (rows : List (List Int)) (w : World) (hn : n = rows.length) (hpos : 1 ≤ n) (h6 : n ≤ 6) (hr : ∀ r ∈ rows, r.length = 48 ∧ OkB r) (hc : n ≤ c) (hC : RC w A n rows) :
    Calls Try.prog 36 #[.int .i64 s, .int .i64 a, .slice A n c] w fun x w' =>
      SlR (slotL s a 0 0 rows []) a w x w' ∧ Below w.heap.size w w' := by
  replace hn := hide hn
  replace hr := hide hr
  go_enter Try.func36, Try.ntmps36
  go_wp2_with fail
  obtain ⟨P, hP⟩ : ∃ P, P = w.heap.size := ⟨_, rfl⟩
  obtain ⟨w2, hw2⟩ : ∃ w2, w2 = (w.alloc (Obj.cells #[.int .i64 0, .int .i64 0, .slice none 0 0] 39)).alloc (Obj.cells #[.int .i64 0, .int .i64 a, .slice none 0 0] 39) := ⟨_, rfl⟩
  rw [← hw2, ← hP]
  have hS2 : SlS w P 0 a none 0 0 [] w2 := by
    refine ⟨by rw [hw2]; exact ((Below.refl _ _).alloc (Nat.le_refl _) _).alloc (by simp) _, by omega, ?_, ?_, Ow.nil _ _ _ _, Nat.le_refl _, rfl⟩
    · rw [hw2, hP]; exact (Below.heap_alloc _ _ _ (by simp)).trans (heap_alloc_new _ _)
    · rw [hw2, hP]
      have := heap_alloc_new (w.alloc (Obj.cells #[.int .i64 0, .int .i64 0, .slice none 0 0] 39)) (Obj.cells #[.int .i64 0, .int .i64 a, .slice none 0 0] 39)
      rwa [World.size_alloc] at this
  clear hw2
  replace hP := hide hP
  go_loopw [18] (fun s18 wr => ∃ (j : Nat) (ser : Int) (A4 : Option Addr) (c4 : Nat) (es : List Ent), j ≤ n ∧ s18 = .int .i64 j ∧ SlS w P ser a A4 j c4 es wr ∧ Hid (slotL s a 0 0 rows [] = slotL s a j ser (rows.drop j) es)) (fun s18 _ => n - (intOf s18).toNat)
  case atStart => exact ⟨0, 0, none, 0, [], by omega, rfl, hS2, rfl⟩
  case round =>
    obtain ⟨j, ser, A4, c4, es, hj, rfl, hS, hL⟩ := hrel
    clear hS2
    by_cases hlt : j < n
    · have hltI : (j : Int) < n := by omega
      have hjl : j < rows.length := by rw [← unhide hn]; exact hlt
      obtain ⟨ad, A0, c0, rfl, hcell, hl0, hs0⟩ := RC.at_ (Kd.C_below hC hS.below) j hlt
      have hdr : rows.drop j = row rows j :: rows.drop (j + 1) := by rw [row_lt hjl]; exact List.drop_eq_getElem_cons hjl
      have hrow := (unhide hr) (row rows j) (by rw [row_lt hjl]; exact List.getElem_mem hjl)
      rw [hdr] at hL
      clear hdr hjl
      generalize row rows j = b at hcell hl0 hs0 hrow hL
      have hpar := parse_b A0 c0 b.length b wr hrow.1 hrow.1 hrow.2 hs0
      obtain ⟨bl, hbl⟩ : ∃ bl, bl = b.length := ⟨_, rfl⟩
      rw [← hbl] at hpar hcell
      clear hbl hs0 hl0 hrow
      obtain ⟨R, hR⟩ : ∃ R, R = parseB b := ⟨_, rfl⟩
      rw [← hR] at hpar
      go_wp2_with fail
      (with_reducible refine hpar.mono ?_)
      rintro x w3 ⟨hx, hb3⟩
      have hS3 := hS.on hb3
      clear hS hb3 hcell hpar
      have hz3 := hS3.lt
      have hne3 : P + 1 < w3.heap.size := by omega
      have hne4 : P < w3.heap.size := by omega
      have c80 : w3.cell? ⟨P + 1, 0, none⟩ = some (.int .i64 ser) := by simp [World.cell?, hS3.e8]
      have c82 : w3.cell? ⟨P + 1, 2, none⟩ = some (.slice A4 j c4) := by simp [World.cell?, hS3.e8]
      have f80 : w3.frozen? ⟨P + 1, 0, none⟩ = false := by simp [World.frozen?, hS3.e8]
      have c60 : w3.cell? ⟨P, 0, none⟩ = some (.int .i64 0) := by simp [World.cell?, hS3.e6]
      have c61 : w3.cell? ⟨P, 1, none⟩ = some (.int .i64 0) := by simp [World.cell?, hS3.e6]
      have c62 : w3.cell? ⟨P, 2, none⟩ = some (.slice none 0 0) := by simp [World.cell?, hS3.e6]
      have f60 : w3.frozen? ⟨P, 0, none⟩ = false := by simp [World.frozen?, hS3.e6]
      have f61 : w3.frozen? ⟨P, 1, none⟩ = false := by simp [World.frozen?, hS3.e6]
      have f62 : w3.frozen? ⟨P, 2, none⟩ = false := by simp [World.frozen?, hS3.e6]
      have hPl := hS3.le
      rcases R with _ | ⟨h, e⟩
      · simp only at hx
        generalize Hd.zero = h at hx
        generalize Ent.zero = e at hx
        subst hx
        have hL' := unhide hL
        simp only [slotL, ← hR] at hL'
        replace hL' := hide hL'
        clear hL hR
        rcases Nat.eq_zero_or_pos j with rfl | hj0
        · have hj0I : ((0 : Nat) : Int) = 0 := rfl
          have hS5 : SlS w P _ a A4 0 c4 es (w3.setCell ⟨P + 1, 0, none⟩ (.int .i64 h.a)) := SlS.setSer hS3 h.a
          have hrd : rd (((((w3.setCell ⟨P + 1, 0, none⟩ (.int .i64 h.a)).setCell ⟨P, 0, none⟩ (.int .i64 0)).setCell ⟨P, 1, none⟩ (.int .i64 0)).setCell ⟨P, 2, none⟩ (.slice none 0 0)).alloc (.cells h.arr 69) |>.alloc (.cells e.arr 54)) P 0 3 = some #[.int .i64 0, .int .i64 0, .slice none 0 0] := by
            rw [rd_alloc _ _ _ _ _ (by simp; omega), rd_alloc _ _ _ _ _ (by simp; omega), rd_setCell_same, rd_setCell_same, rd_setCell_same]
            simp [rd, hS5.e6]
          have hbF : Below w.heap.size w (((((w3.setCell ⟨P + 1, 0, none⟩ (.int .i64 h.a)).setCell ⟨P, 0, none⟩ (.int .i64 0)).setCell ⟨P, 1, none⟩ (.int .i64 0)).setCell ⟨P, 2, none⟩ (.slice none 0 0)).alloc (.cells h.arr 69) |>.alloc (.cells e.arr 54)) := ((((hS5.below.setCell hS5.le _).setCell hS5.le _).setCell hS5.le _).alloc (by simp; omega) _).alloc (by simp; omega) _
          clear hS5 hS3 hPl hz3
          replace hrd := hide hrd
          go_wp2_with fail
          refine bodyPost_ret (results_ct Try.results36 Try.underlying39 rfl info_row (cs := #[.int .i64 0, .int .i64 0, .slice none 0 0]) rfl (unhide hrd)) rfl ⟨by rw [unhide hL']; rfl, hbF⟩
        · have hj0I : ¬ (j : Int) = 0 := by omega
          have hS5 : SlS w P _ a A4 j c4 es (w3) := hS3
          have hrd : rd (((((w3).setCell ⟨P, 0, none⟩ (.int .i64 0)).setCell ⟨P, 1, none⟩ (.int .i64 0)).setCell ⟨P, 2, none⟩ (.slice none 0 0)).alloc (.cells h.arr 69) |>.alloc (.cells e.arr 54)) P 0 3 = some #[.int .i64 0, .int .i64 0, .slice none 0 0] := by
            rw [rd_alloc _ _ _ _ _ (by simp; omega), rd_alloc _ _ _ _ _ (by simp; omega), rd_setCell_same, rd_setCell_same, rd_setCell_same]
            simp [rd, hS5.e6]
          have hbF : Below w.heap.size w (((((w3).setCell ⟨P, 0, none⟩ (.int .i64 0)).setCell ⟨P, 1, none⟩ (.int .i64 0)).setCell ⟨P, 2, none⟩ (.slice none 0 0)).alloc (.cells h.arr 69) |>.alloc (.cells e.arr 54)) := ((((hS5.below.setCell hS5.le _).setCell hS5.le _).setCell hS5.le _).alloc (by simp; omega) _).alloc (by simp; omega) _
          clear hS5 hS3 hPl hz3
          replace hrd := hide hrd
          go_wp2_with fail
          refine bodyPost_ret (results_ct Try.results36 Try.underlying39 rfl info_row (cs := #[.int .i64 0, .int .i64 0, .slice none 0 0]) rfl (unhide hrd)) rfl ⟨by rw [unhide hL']; rfl, hbF⟩
      · simp only at hx
        subst hx
        have hL' := unhide hL
        simp only [slotL, ← hR] at hL'
        clear hL hR
        rcases Nat.eq_zero_or_pos j with rfl | hj0
        · have e0 : ((0 : Nat) : Int) = 0 := rfl
          rw [if_pos rfl, e0] at hL'
          by_cases hh : h = ⟨h.a, s, a, 0⟩
          · rw [if_pos hh] at hL'
            replace hh := decide_eq_true hh
            replace hL' := hide hL'
            have hS5 : SlS w P (h.a) a A4 0 c4 es (((w3.setCell ⟨P + 1, 0, none⟩ (.int .i64 h.a)).alloc (.cells h.arr 69)).alloc (.cells e.arr 54)) := ((SlS.setSer hS3 h.a).on ((Below.refl _ _).alloc (Nat.le_refl _) _)).on ((Below.refl _ _).alloc (Nat.le_refl _) _)
            obtain ⟨A6, c6, w6, hrun, c6c, c6f, hS6⟩ := hS5.app e (by omega)
            have hsz : (((w3.setCell ⟨P + 1, 0, none⟩ (.int .i64 h.a)).alloc (.cells h.arr 69)).alloc (.cells e.arr 54)).heap.size = w3.heap.size + 2 := by simp
            rw [hsz] at hrun
            clear hS5 hS3 hPl hsz
            go_wp2_with (at_builtin; refine wpList_step (fun K hK => step_append_ex (o := ⟨some 51, _, _, _, _, _⟩) (.tmp 48) (.tmp 50) 22 rfl (by rfl) ?_); (with_reducible refine app_ex hrun ?_ (hK _ _ ?_)); rfl)
            refine ⟨⟨1, h.a, A6, c6, es ++ [e], by omega, rfl, hS6, hide hL'⟩, by simp [intOf]; omega⟩
          · rw [if_neg hh] at hL'
            replace hh := decide_eq_false hh
            replace hL' := hide hL'
            have hS5 : SlS w P _ a A4 0 c4 es (w3.setCell ⟨P + 1, 0, none⟩ (.int .i64 h.a)) := SlS.setSer hS3 h.a
            have hrd : rd (((((w3.setCell ⟨P + 1, 0, none⟩ (.int .i64 h.a)).setCell ⟨P, 0, none⟩ (.int .i64 0)).setCell ⟨P, 1, none⟩ (.int .i64 0)).setCell ⟨P, 2, none⟩ (.slice none 0 0)).alloc (.cells h.arr 69) |>.alloc (.cells e.arr 54)) P 0 3 = some #[.int .i64 0, .int .i64 0, .slice none 0 0] := by
              rw [rd_alloc _ _ _ _ _ (by simp; omega), rd_alloc _ _ _ _ _ (by simp; omega), rd_setCell_same, rd_setCell_same, rd_setCell_same]
              simp [rd, hS5.e6]
            have hbF : Below w.heap.size w (((((w3.setCell ⟨P + 1, 0, none⟩ (.int .i64 h.a)).setCell ⟨P, 0, none⟩ (.int .i64 0)).setCell ⟨P, 1, none⟩ (.int .i64 0)).setCell ⟨P, 2, none⟩ (.slice none 0 0)).alloc (.cells h.arr 69) |>.alloc (.cells e.arr 54)) := ((((hS5.below.setCell hS5.le _).setCell hS5.le _).setCell hS5.le _).alloc (by simp; omega) _).alloc (by simp; omega) _
            clear hS5 hS3 hPl hz3
            replace hrd := hide hrd
            go_wp2_with fail
            refine bodyPost_ret (results_ct Try.results36 Try.underlying39 rfl info_row (cs := #[.int .i64 0, .int .i64 0, .slice none 0 0]) rfl (unhide hrd)) rfl ⟨by rw [unhide hL']; rfl, hbF⟩
        · rw [if_neg (show ¬ j = 0 by omega)] at hL'
          have hj0I : ¬ (j : Int) = 0 := by omega
          by_cases hh : h = ⟨ser, s, a, (j : Int)⟩
          · rw [if_pos hh] at hL'
            replace hh := decide_eq_true hh
            replace hL' := hide hL'
            have hS5 : SlS w P (ser) a A4 j c4 es (((w3).alloc (.cells h.arr 69)).alloc (.cells e.arr 54)) := ((hS3).on ((Below.refl _ _).alloc (Nat.le_refl _) _)).on ((Below.refl _ _).alloc (Nat.le_refl _) _)
            obtain ⟨A6, c6, w6, hrun, c6c, c6f, hS6⟩ := hS5.app e (by omega)
            have hsz : (((w3).alloc (.cells h.arr 69)).alloc (.cells e.arr 54)).heap.size = w3.heap.size + 2 := by simp
            rw [hsz] at hrun
            clear hS5 hS3 hPl hsz
            go_wp2_with (at_builtin; refine wpList_step (fun K hK => step_append_ex (o := ⟨some 51, _, _, _, _, _⟩) (.tmp 48) (.tmp 50) 22 rfl (by rfl) ?_); (with_reducible refine app_ex hrun ?_ (hK _ _ ?_)); rfl)
            go_roundw
            case rel => exact ⟨j + 1, ser, A6, c6, es ++ [e], by omega, by go_num, hS6, hide hL'⟩
            case measure => simp [intOf]; omega
          · rw [if_neg hh] at hL'
            replace hh := decide_eq_false hh
            replace hL' := hide hL'
            have hS5 : SlS w P _ a A4 j c4 es (w3) := hS3
            have hrd : rd (((((w3).setCell ⟨P, 0, none⟩ (.int .i64 0)).setCell ⟨P, 1, none⟩ (.int .i64 0)).setCell ⟨P, 2, none⟩ (.slice none 0 0)).alloc (.cells h.arr 69) |>.alloc (.cells e.arr 54)) P 0 3 = some #[.int .i64 0, .int .i64 0, .slice none 0 0] := by
              rw [rd_alloc _ _ _ _ _ (by simp; omega), rd_alloc _ _ _ _ _ (by simp; omega), rd_setCell_same, rd_setCell_same, rd_setCell_same]
              simp [rd, hS5.e6]
            have hbF : Below w.heap.size w (((((w3).setCell ⟨P, 0, none⟩ (.int .i64 0)).setCell ⟨P, 1, none⟩ (.int .i64 0)).setCell ⟨P, 2, none⟩ (.slice none 0 0)).alloc (.cells h.arr 69) |>.alloc (.cells e.arr 54)) := ((((hS5.below.setCell hS5.le _).setCell hS5.le _).setCell hS5.le _).alloc (by simp; omega) _).alloc (by simp; omega) _
            clear hS5 hS3 hPl hz3
            replace hrd := hide hrd
            go_wp2_with fail
            refine bodyPost_ret (results_ct Try.results36 Try.underlying39 rfl info_row (cs := #[.int .i64 0, .int .i64 0, .slice none 0 0]) rfl (unhide hrd)) rfl ⟨by rw [unhide hL']; rfl, hbF⟩
    · obtain rfl : j = n := by omega
      have hL' := unhide hL
      rw [List.drop_eq_nil_of_le (by rw [← unhide hn]; exact Nat.le_refl _)] at hL'
      simp only [slotL] at hL'
      replace hL' := hide hL'
      clear hL
      have hz := hS.lt
      have hPl := hS.le
      have hcl := clone_any A4 c4 j es wr hS.len.symm (by omega) hS.cap (by omega) ((hS.own.sl (Ent.sized _) (by omega)).less (Nat.zero_le _))
      have d2 : wr.cell? ⟨P + 1, 2, none⟩ = some (.slice A4 j c4) := by simp [World.cell?, hS.e8]
      have hSc := hide hS
      have hlen := hide hS.len
      clear hS
      go_wp2_with fail
      (with_reducible refine hcl.mono ?_)
      rintro x w5 ⟨A', c', rfl, hc', ho, hb5⟩
      have hS5 := (unhide hSc).on hb5
      clear hSc
      have d0 : w5.cell? ⟨P + 1, 0, none⟩ = some (.int .i64 ser) := by simp [World.cell?, hS5.e8]
      have d1 : w5.cell? ⟨P + 1, 1, none⟩ = some (.int .i64 a) := by simp [World.cell?, hS5.e8]
      have d2 : w5.cell? ⟨P + 1, 2, none⟩ = some (.slice A4 j c4) := by simp [World.cell?, hS5.e8]
      have f2 : w5.frozen? ⟨P + 1, 2, none⟩ = false := by simp [World.frozen?, hS5.e8]
      have c60 : w5.cell? ⟨P, 0, none⟩ = some (.int .i64 0) := by simp [World.cell?, hS5.e6]
      have c61 : w5.cell? ⟨P, 1, none⟩ = some (.int .i64 0) := by simp [World.cell?, hS5.e6]
      have c62 : w5.cell? ⟨P, 2, none⟩ = some (.slice none 0 0) := by simp [World.cell?, hS5.e6]
      have f60 : w5.frozen? ⟨P, 0, none⟩ = false := by simp [World.frozen?, hS5.e6]
      have f61 : w5.frozen? ⟨P, 1, none⟩ = false := by simp [World.frozen?, hS5.e6]
      have f62 : w5.frozen? ⟨P, 2, none⟩ = false := by simp [World.frozen?, hS5.e6]
      have hrd : rd ((((w5.setCell ⟨P + 1, 2, none⟩ (.slice A' j c')).setCell ⟨P, 0, none⟩ (.int .i64 ser)).setCell ⟨P, 1, none⟩ (.int .i64 a)).setCell ⟨P, 2, none⟩ (.slice A' j c')) P 0 3 = some #[.int .i64 ser, .int .i64 a, .slice A' j c'] := by
        rw [rd_setCell_same, rd_setCell_same, rd_setCell_same, rd_setCell _ _ _ _ _ _ (by show P ≠ P + 1; omega)]
        simp [rd, hS5.e6]
      have hbF : Below w.heap.size w ((((w5.setCell ⟨P + 1, 2, none⟩ (.slice A' j c')).setCell ⟨P, 0, none⟩ (.int .i64 ser)).setCell ⟨P, 1, none⟩ (.int .i64 a)).setCell ⟨P, 2, none⟩ (.slice A' j c')) := (((hS5.below.setCell (by show w.heap.size ≤ P + 1; omega) _).setCell hS5.le _).setCell hS5.le _).setCell hS5.le _
      have hoF : Ow ((((w5.setCell ⟨P + 1, 2, none⟩ (.slice A' j c')).setCell ⟨P, 0, none⟩ (.int .i64 ser)).setCell ⟨P, 1, none⟩ (.int .i64 a)).setCell ⟨P, 2, none⟩ (.slice A' j c')) w.heap.size 54 19 (.slice A' j c') (es.map Ent.arr) :=
        ((((ho.setCell (by show P + 1 < wr.heap.size; omega) _).setCell (by show P < wr.heap.size; omega) _).setCell (by show P < wr.heap.size; omega) _).setCell (by show P < wr.heap.size; omega) _).less (by omega)
      clear hS5 ho hz hPl
      replace hrd := hide hrd
      go_wp2_with fail
      refine bodyPost_ret (results_ct Try.results36 Try.underlying39 rfl info_row (cs := #[.int .i64 ser, .int .i64 a, .slice A' j c']) rfl (unhide hrd)) rfl ⟨?_, hbF⟩
      rw [unhide hL']
      have hlen := unhide hlen
      subst hlen
      exact ⟨A', c', rfl, hc', hoF⟩
end Go.Proofs.Ytodbmgafejclmaa.Base
