/-
  A slot's bytes, by the program (entry.Bytes).
-/
import Derived.Test.YtibileffpgnjhaaEb
namespace Go.Proofs.Ytibileffpgnjhaa.Base
open Go.RowKit Go.Proofs.YtibileffpgnjhaaW.PrintWords Go.Proofs.YtibileffpgnjhaaW.PrintLast
set_option linter.unusedSimpArgs false
set_option linter.unusedVariables false
attribute [local go_sem] Ent.arr0 Ent.arr1 Ent.arr2 Ent.set1 Ent.set2 Ent.arr_size Ent.okW Ent.lit run_ldV_ent run_stV_ent ldR_some stR_true rd_new_whole rd_alloc canW_new canW_alloc wr_new wr_alloc rd_drew rd_drewN canW_drew canW_drewN run_bsS_ent run_bsS_ent0 run_eqI_ent rd_setCell rd_setCell_same canW_setCell' Option.map_some cell_wr_other rd_wr_same rd_wr_other
attribute [local go_sem ↓] ldV_ent stV_ent bsS_ent eqI_ent
attribute [local go_sem] Ent.arr0g Ent.arr1g Ent.arr2g run_ldV_dat rd_dat run_eqI_dat dat_lit
attribute [local go_sem ↓] ldV_dat eqI_dat

theorem step_copy_ex {P : Program} {ops : Array Oper} {o : Oper} {a : Act} {w : World} {K : Act → World → Prop} {Q : Exit → Act → World → Prop} {E : Prop} (s x : Operand) (t ti : TypeId)
    (ho : o.op = .call { callee := .builtin .copy, args := #[s, x], argTypes := #[t, ti] }) (hw : Region.wanted o (yielded ops a.tmps) = true)
    (h : ∃ v w', (Builtin.copy_ #[t, ti] o.type #[a.eval s, a.eval x]).run P w = .ok v w' ∧ K (a.put o.dst v) w') :
    if Region.wanted o (yielded ops a.tmps) = true then Oper.wp P o a w K Q else E := by
  obtain ⟨v, w', hrun, h⟩ := h
  rw [if_pos hw]
  unfold Oper.wp execOp
  simp only [ho, resolve, invoke, builtin, Sem.run_bind, Sem.run_pure, Result.andThen_ok, List.map_toArray, List.map_cons, List.map_nil, hrun]
  exact h
def nums (h1 h2 h3 k : Int) : List Int := [h1 % 256, h2 % 256, h3 % 256, k % 256]
theorem bytesE_eq (h0 h1 h2 h3 : Int) (e : Ent) : bytesE h0 h1 h2 h3 e = (leI h0 8 ++ (nums h1 h2 h3 e.k).take 4 ++ leI e.l 8 ++ leI e.s 8) ++ dataL e ++ [0, 0, 0, 0] := by simp [bytesE, nums]
theorem flat_join (a b : List Int) : (flat (By a)).toArray ++ (flat (By b)).toArray ++ #[Value.int .u8 0, Value.int .u8 0, Value.int .u8 0, Value.int .u8 0] = (flat (By (a ++ b ++ [0, 0, 0, 0]))).toArray := by
  rw [flat_by, flat_by, flat_by, List.map_append, List.map_append]
  simp only [List.map_cons, List.map_nil, List.append_toArray]
set_option maxRecDepth 100000 in
set_option maxHeartbeats 4000000 in
theorem bytes_any (h0 h1 h2 h3 : Int) (e : Ent) (w : World) (hh0 : I64 h0) (hh1 : I64 h1) (hh2 : I64 h2) (hh3 : I64 h3) (he0 : I64 e.k) (he1 : I64 e.l) (he2 : I64 e.s) :
    Calls Try.prog 29 #[.agg #[.int .i64 h0, .int .i64 h1, .int .i64 h2, .int .i64 h3], .agg e.arr] w fun x w' =>
      (∃ A, x = .returned (.slice A 48 48) ∧ Sl w' w.heap.size w'.heap.size 1 A (By (bytesE h0 h1 h2 h3 e))) ∧ Below w.heap.size w w' := by
  go_enter Try.func29, Try.ntmps29
  go_wp2_with fail
  obtain ⟨W0, hW⟩ : ∃ W0, ((w.alloc (Obj.cells #[Value.int .i64 h0, Value.int .i64 h1, Value.int .i64 h2, Value.int .i64 h3] 51)).alloc (Obj.cells e.arr 44)) = W0 := ⟨_, rfl⟩
  rw [hW]
  have z0 : W0.heap.size = w.heap.size + 2 := by rw [← hW]; simp
  have b0 : Below w.heap.size w W0 := by rw [← hW]; exact ((Below.refl _ _).alloc (Nat.le_refl _) _).alloc (by simp) _
  have f1 : W0.cell? ⟨w.heap.size, 1, none⟩ = some (.int .i64 h1) := by rw [← hW]; clear hW z0 b0; go_simp
  have f2 : W0.cell? ⟨w.heap.size, 2, none⟩ = some (.int .i64 h2) := by rw [← hW]; clear hW z0 b0; go_simp
  have f3 : W0.cell? ⟨w.heap.size, 3, none⟩ = some (.int .i64 h3) := by rw [← hW]; clear hW z0 b0; go_simp
  have f4 : W0.cell? ⟨w.heap.size + 1, 0, none⟩ = some (.int .i64 e.k) := by rw [← hW]; clear hW z0 b0; go_simp
  have f5 : W0.cell? ⟨w.heap.size + 1, 1, none⟩ = some (.int .i64 e.l) := by rw [← hW]; clear hW z0 b0; go_simp
  have f6 : W0.cell? ⟨w.heap.size + 1, 2, none⟩ = some (.int .i64 e.s) := by rw [← hW]; clear hW z0 b0; go_simp
  have f7 : rd W0 (w.heap.size + 1) 3 16 = some e.data.toArray := by rw [← hW]; exact rd_dat _ _ _ (by simp)
  clear hW
  have keep0 : ∀ w', Below (w.heap.size + 2) W0 w' → (fun w' => w'.cell? ⟨w.heap.size + 1, 1, none⟩ = some (.int .i64 e.l) ∧ w'.cell? ⟨w.heap.size + 1, 2, none⟩ = some (.int .i64 e.s) ∧ rd w' (w.heap.size + 1) 3 16 = some e.data.toArray) w' := fun w' h => ⟨(h.cell (p := ⟨w.heap.size + 1, 1, none⟩) (by show w.heap.size + 1 < _; omega)).trans f5, (h.cell (p := ⟨w.heap.size + 1, 2, none⟩) (by show w.heap.size + 1 < _; omega)).trans f6, (rd_below h (by omega) _ _).trans f7⟩
  replace z0 := hide z0
  have hb0 : w.heap.size + 2 ≤ W0.heap.size := by rw [unhide z0]; omega
  refine (int_any [] h0 W0 hh0 (by simp) 0 0 none 0 0 rfl Sl.nil).mono ?_
  rintro x w1 ⟨⟨A1, c1, rfl, hc1, ho1⟩, hb1⟩
  rw [List.nil_append] at ho1
  have kw1 : Below (w.heap.size + 2) W0 w1 := hb1.mono hb0
  have z1 : w.heap.size + 2 ≤ w1.heap.size := Nat.le_trans hb0 kw1.size
  have g1 := (kw1.cell (p := ⟨w.heap.size, 1, none⟩) (by show w.heap.size < _; omega)).trans f1
  have g2 := (kw1.cell (p := ⟨w.heap.size, 2, none⟩) (by show w.heap.size < _; omega)).trans f2
  have g3 := (kw1.cell (p := ⟨w.heap.size, 3, none⟩) (by show w.heap.size < _; omega)).trans f3
  have g4 := (kw1.cell (p := ⟨w.heap.size + 1, 0, none⟩) (by show w.heap.size + 1 < _; omega)).trans f4
  clear f1 f2 f3 f4 f5 f6 f7
  go_wp2_with fail
  obtain ⟨W2, hW2⟩ : ∃ W2, w1.alloc (Obj.cells #[Value.int .i64 h1, Value.int .i64 h2, Value.int .i64 h3, Value.int .i64 e.k] 3) = W2 := ⟨_, rfl⟩
  rw [hW2]
  have kw2 : Below (w.heap.size + 2) W0 W2 := by rw [← hW2]; exact kw1.alloc z1 _
  have z2 : w1.heap.size < W2.heap.size := by rw [← hW2]; simp
  have n0 : W2.cell? ⟨w1.heap.size, 0, none⟩ = some (.int .i64 h1) := by rw [← hW2]; clear hW2; go_simp
  have n1 : W2.cell? ⟨w1.heap.size, 1, none⟩ = some (.int .i64 h2) := by rw [← hW2]; clear hW2; go_simp
  have n2 : W2.cell? ⟨w1.heap.size, 2, none⟩ = some (.int .i64 h3) := by rw [← hW2]; clear hW2; go_simp
  have n3 : W2.cell? ⟨w1.heap.size, 3, none⟩ = some (.int .i64 e.k) := by rw [← hW2]; clear hW2; go_simp
  have hs2 : Sl W2 0 W2.heap.size 1 A1 (By (leI h0 8)) := by rw [← hW2]; exact (((ho1.sl (By.sized _) (by omega)).less (Nat.zero_le _)).alloc (Nat.le_refl _) _).more (by simp)
  clear hW2 g1 g2 g3 g4
  replace n0 := hide n0; replace n1 := hide n1; replace n2 := hide n2; replace n3 := hide n3; replace hs2 := hide hs2
  go_loopw [5, 7, 22] (fun s5 s7 s22 wr => ∃ (j : Nat) (A : Option Addr) (c : Nat), j ≤ 4 ∧ s22 = .int .i64 j ∧ s5 = .slice A (8 + j) c ∧ 8 + j ≤ c ∧ Sl wr 0 wr.heap.size 1 A (By (leI h0 8 ++ (nums h1 h2 h3 e.k).take j)) ∧ Below W2.heap.size W2 wr) (fun _ _ s22 _ => 4 - (intOf s22).toNat)
  case atStart => exact ⟨0, A1, c1, by omega, rfl, rfl, hc1, by simpa using unhide hs2, Below.refl _ _⟩
  case round =>
    obtain ⟨j, A, c, hj, rfl, rfl, hc, hs, hb⟩ := hrel
    have hz := hb.size
    by_cases hj4 : j < 4
    · have hn : ∃ x : Int, I64 x ∧ wr.cell? ⟨w1.heap.size, j, none⟩ = some (.int .i64 x) ∧ (nums h1 h2 h3 e.k).take (j + 1) = (nums h1 h2 h3 e.k).take j ++ [x % 256] := by
        rcases (by omega : j = 0 ∨ j = 1 ∨ j = 2 ∨ j = 3) with rfl | rfl | rfl | rfl
        · exact ⟨h1, hh1, (hb.cell (p := ⟨w1.heap.size, 0, none⟩) z2).trans (unhide n0), rfl⟩
        · exact ⟨h2, hh2, (hb.cell (p := ⟨w1.heap.size, 1, none⟩) z2).trans (unhide n1), rfl⟩
        · exact ⟨h3, hh3, (hb.cell (p := ⟨w1.heap.size, 2, none⟩) z2).trans (unhide n2), rfl⟩
        · exact ⟨e.k, he0, (hb.cell (p := ⟨w1.heap.size, 3, none⟩) z2).trans (unhide n3), rfl⟩
      obtain ⟨x, hx, hcell, htk⟩ := hn
      have hlen : (leI h0 8 ++ (nums h1 h2 h3 e.k).take j).length = 8 + j := by rw [List.length_append, leI_len, List.length_take]; simp [nums]; omega
      have hcon := byte_any _ x wr hx (by rw [hlen]; omega) 0 _ A (8 + j) c hlen hs
      have hjI : (j : Int) < 4 := by omega
      have hj0 : (0 : Int) ≤ (j : Int) := by omega
      replace htk := hide htk; replace hlen := hide hlen; replace hs := hide hs
      go_wp2_with fail
      (with_reducible refine hcon.mono ?_)
      rintro y w4 ⟨⟨A4, c4, rfl, hc4, ho4⟩, hb4⟩
      have hs4 : Sl w4 0 w4.heap.size 1 A4 _ := (ho4.sl (By.sized _) (by omega)).less (Nat.zero_le _)
      rw [List.append_assoc, ← unhide htk] at hs4
      have hbb : Below W2.heap.size W2 w4 := hb.trans (hb4.mono hz)
      replace hs4 := hide hs4
      clear hcon ho4
      go_wp2_with fail
      go_roundw
      case rel => exact ⟨j + 1, A4, c4, by omega, by go_num, rfl, hc4, unhide hs4, hbb⟩
      case measure => simp [intOf]; omega
    · obtain rfl : j = 4 := by omega
      obtain ⟨w3, rfl⟩ : ∃ w3, w3 = wr := ⟨_, rfl⟩
      obtain ⟨A3, rfl⟩ : ∃ A3, A3 = A := ⟨_, rfl⟩
      obtain ⟨c3, rfl⟩ : ∃ c3, c3 = c := ⟨_, rfl⟩
      have hz2 := kw2.size
      have kw3 : Below (w.heap.size + 2) W0 w3.drew := (kw2.trans (hb.mono (by omega))).drew
      have zw3 : w.heap.size + 2 ≤ w3.drew.heap.size := Nat.le_trans hb0 kw3.size
      have lnum : (leI h0 8 ++ (nums h1 h2 h3 e.k).take 4).length = 12 := by rw [List.length_append, leI_len]; rfl
      have hs3d : Sl w3.drew 0 w3.drew.heap.size 1 A3 (By (leI h0 8 ++ (nums h1 h2 h3 e.k).take 4)) := hs
      replace lnum := hide lnum
      go_upto_region 7 with fail
      refine start_ (n := 8) (S := fun w' => w'.cell? ⟨w.heap.size + 1, 1, none⟩ = some (.int .i64 e.l) ∧ w'.cell? ⟨w.heap.size + 1, 2, none⟩ = some (.int .i64 e.s) ∧ rd w' (w.heap.size + 1) 3 16 = some e.data.toArray) (ds := []) #[false, false, false, false, false, false, false, false] (by kernel_rfl) rfl rfl (keep0 _ kw3) (fun hHeld => ?_)
      refine pure_ (i := 0) (N := some 30) (v := ?_) (a' := ?_) #[true, false, false, false, false, false, false, false] rfl rfl (by kernel_rfl) (fun _ _ _ h => h) (Or.inl ⟨by rfl, ?_⟩) ?_ ?_
      rotate_left
      · intro w'
        go_simp
        with_reducible rfl
      rotate_left
      · simp only [Act.put, List.setIfInBounds_toArray, List.set_cons_zero, List.set_cons_succ, i64_w, i32_w]
        rfl
      refine pure_ (i := 1) (N := some 31) (v := ?_) (a' := ?_) #[true, true, false, false, false, false, false, false] rfl rfl (by kernel_rfl) (fun _ _ _ h => h) (Or.inl ⟨by rfl, ?_⟩) ?_ ?_
      rotate_left
      · intro w'
        go_simp
        with_reducible rfl
      rotate_left
      · simp only [Act.put, List.setIfInBounds_toArray, List.set_cons_zero, List.set_cons_succ, i64_w, i32_w]
        rfl
      refine take_ (i := 2) (N := some 32) (v := ?_) (a' := ?_) #[true, true, true, false, false, false, false, false] rfl rfl (by kernel_rfl) (fun _ _ _ h => h) (Or.inl ⟨by rfl, ?_⟩) hHeld ?_ ?_
      rotate_left
      · intro w' hs_; obtain ⟨s0, s1, s2⟩ := hs_
        go_simp
        with_reducible rfl
      rotate_left
      · simp only [Act.put, List.setIfInBounds_toArray, List.set_cons_zero, List.set_cons_succ, i64_w, i32_w]
        rfl
      refine pure_ (i := 4) (N := some 34) (v := ?_) (a' := ?_) #[true, true, true, false, true, false, false, false] rfl rfl (by kernel_rfl) (fun _ _ _ h => h) (Or.inl ⟨by rfl, ?_⟩) ?_ ?_
      rotate_left
      · intro w'
        go_simp
        with_reducible rfl
      rotate_left
      · simp only [Act.put, List.setIfInBounds_toArray, List.set_cons_zero, List.set_cons_succ, i64_w, i32_w]
        rfl
      refine take_ (i := 5) (N := some 35) (v := ?_) (a' := ?_) #[true, true, true, false, true, true, false, false] rfl rfl (by kernel_rfl) (fun _ _ _ h => h) (Or.inl ⟨by rfl, ?_⟩) hHeld ?_ ?_
      rotate_left
      · intro w' hs_; obtain ⟨s0, s1, s2⟩ := hs_
        go_simp
        with_reducible rfl
      rotate_left
      · simp only [Act.put, List.setIfInBounds_toArray, List.set_cons_zero, List.set_cons_succ, i64_w, i32_w]
        rfl
      refine one_ (i := 3) (N := some 33) #[true, true, true, true, true, true, false, false] rfl rfl (by kernel_rfl) (by decide) (fun K hK => ?_)
      refine goes_ Try.func48 (by kernel_rfl) rfl #[.slice A3 12 c3, .int .i64 e.l] (by rfl) rfl rfl (by (try simp only [List.map_toArray, List.map_cons, List.map_nil]); first | done | rfl) ?_
      with_reducible refine (int_any _ e.l w3.drew he1 (by rw [unhide lnum]; omega) 0 _ A3 12 c3 (unhide lnum) hs3d).mono ?_
      rintro x w4 ⟨⟨A4, c4, rfl, hc4, ho4⟩, hbw4⟩
      have kw4 : Below (w.heap.size + 2) W0 w4 := Below.trans kw3 (hbw4.mono zw3)
      have zw4 := Nat.le_trans hb0 kw4.size
      refine ⟨_, rfl, hK.out _ _ (keep0 _ kw4) (fun hHeld => ?_)⟩
      clear hK K
      refine norm_ (a' := ?_) ?_ ?_
      rotate_left
      · show Act.put _ (some 33) _ = _
        simp only [Act.put, List.setIfInBounds_toArray, List.set_cons_zero, List.set_cons_succ, i64_w, i32_w]
        rfl
      have hs4 : Sl w4 0 w4.heap.size 1 A4 _ := (ho4.sl (By.sized _) (by omega)).less (Nat.zero_le _)
      refine one_ (i := 6) (N := some 36) #[true, true, true, true, true, true, true, false] rfl rfl (by kernel_rfl) (by decide) (fun K hK => ?_)
      refine goes_ Try.func48 (by kernel_rfl) rfl #[.slice A4 20 c4, .int .i64 e.s] (by rfl) rfl rfl (by (try simp only [List.map_toArray, List.map_cons, List.map_nil]); first | done | rfl) ?_
      with_reducible refine (int_any _ e.s w4 he2 (by rw [List.length_append, unhide lnum, leI_len]; omega) 0 _ A4 20 c4 (by rw [List.length_append, unhide lnum, leI_len]) hs4).mono ?_
      rintro x w5 ⟨⟨A5, c5, rfl, hc5, ho5⟩, hbw5⟩
      have kw5 : Below (w.heap.size + 2) W0 w5 := Below.trans kw4 (hbw5.mono zw4)
      have zw5 := Nat.le_trans hb0 kw5.size
      refine ⟨_, rfl, hK.out _ _ (keep0 _ kw5) (fun hHeld => ?_)⟩
      clear hK K
      refine norm_ (a' := ?_) ?_ ?_
      rotate_left
      · show Act.put _ (some 36) _ = _
        simp only [Act.put, List.setIfInBounds_toArray, List.set_cons_zero, List.set_cons_succ, i64_w, i32_w]
        rfl
      refine pure_ (i := 7) (N := some 5) (v := ?_) (a' := ?_) #[true, true, true, true, true, true, true, true] rfl rfl (by kernel_rfl) (fun _ _ _ h => h) (Or.inl ⟨by rfl, ?_⟩) ?_ ?_
      rotate_left
      · intro w'
        go_simp
        with_reducible rfl
      rotate_left
      · simp only [Act.put, List.setIfInBounds_toArray, List.set_cons_zero, List.set_cons_succ, i64_w, i32_w]
        rfl
      refine done_ (by kernel_rfl) ?_
      have hs5 : Sl w5 0 w5.heap.size 1 A5 _ := (ho5.sl (By.sized _) (by omega)).less (Nat.zero_le _)
      have hmk : ∀ w, (Instr.makeSlice 47 (.int .i64 48) (.int .i64 48)).run Try.prog w = .ok (.slice (some ⟨w.heap.size, 0, none⟩) 48 48) (w.alloc (.cells (Array.replicate 48 (.int .u8 0)) 5)) := fun _ => by kernel_rfl
      replace hs5 := hide hs5
      go_upto_region 9 with fail
      have kw5z := kw5.size
      obtain ⟨G, hG⟩ : ∃ G, w5.heap.size = G := ⟨_, rfl⟩
      obtain ⟨bs, hbs⟩ : ∃ bs, leI h0 8 ++ (nums h1 h2 h3 e.k).take 4 ++ leI e.l 8 ++ leI e.s 8 = bs := ⟨_, rfl⟩
      rw [hbs] at hs5
      have hbl : bs.length = 28 := by rw [← hbs, List.length_append, List.length_append, unhide lnum, leI_len, leI_len]
      obtain ⟨W6, hW6⟩ : ∃ W6, w5.alloc (Obj.cells (Array.replicate 48 (Value.int IntKind.u8 0)) 5) = W6 := ⟨_, rfl⟩
      have hne : w.heap.size + 1 ≠ G := by omega
      have z6 : W6.heap.size = G + 1 := by rw [← hW6, ← hG]; simp
      have kw6 : Below (w.heap.size + 2) W0 W6.drew := by rw [← hW6]; exact (kw5.alloc zw5 _).drew
      have hd6 : rd W6.drew (w.heap.size + 1) 3 16 = some e.data.toArray := (keep0 _ kw6).2.2
      have hc6 : canW W6.drew G 0 48 = true := by rw [← hW6, ← hG]; exact canW_new _ _ _ _ _ _ rfl (by simp)
      have hr6 : rd W6.drew G 44 4 = some #[.int .u8 0, .int .u8 0, .int .u8 0, .int .u8 0] := by rw [← hW6, ← hG]; exact (rd_new _ _ _ _ _ _ _ rfl (by simp)).trans rfl
      have hs6 : Sl W6.drew 0 G 1 A5 (By bs) := by rw [← hW6, ← hG]; exact ((unhide hs5).alloc (Nat.le_refl _) _).drew
      have hu := Try.underlying47
      have hsz : (Try.prog.info? 5).map (·.size) = some 1 := by kernel_rfl
      have cp1 := run_copy_sl (P := Try.prog) W6.drew 47 47 3 5 1 hu hsz G 0 48 48 A5 28 c5 (By bs) 0 G hs6 (By.sized _) (By.ones _) (by rw [By.len, hbl]; rfl) (by rw [By.len, hbl]; exact canW_part hc6 0 28 (by omega))
      have hf28 : (flat (By bs)).toArray.size = 28 := by rw [flat_size (By.sized _), By.len, hbl]
      have hf16 : (flat (By (dataL e))).toArray.size = 16 := by rw [flat_size (By.sized _), By.len, dataL_len]
      obtain ⟨W7, hW7⟩ : ∃ W7, wr W6.drew G 0 (flat (By bs)).toArray = W7 := ⟨_, rfl⟩
      have z7 : W7.heap.size = G + 1 := by rw [← hW7, size_wr]; exact z6
      have hc0 : canW W6.drew G 0 (flat (By bs)).toArray.size = true := by rw [hf28]; exact canW_part hc6 0 28 (by omega)
      have hc7 : ∀ o n, canW W7 G o n = canW W6.drew G o n := fun o n => by rw [← hW7]; exact canW_wr _ _ _ _ _ _ _ hc0
      have hd7 : rd W7 (w.heap.size + 1) 3 16 = some e.data.toArray := by rw [← hW7]; exact (rd_wr_other _ _ _ _ _ _ _ hne).trans hd6
      have hr7 : rd W7 G 0 28 = some (flat (By bs)).toArray := by rw [← hW7]; exact rd_wr_same _ _ _ _ _ hf28.symm (canW_part hc6 0 28 (by omega))
      have hq7 : rd W7 G 44 4 = some #[.int .u8 0, .int .u8 0, .int .u8 0, .int .u8 0] := by rw [← hW7]; exact (rd_wr_apart _ _ _ _ _ _ hc0 (.inr (by rw [hf28]; omega))).trans hr6
      have hb7 : Below (w.heap.size + 2) W0 W7 := by rw [← hW7]; exact below_wr kw6 (by omega) _ _
      have hcp1 : (Builtin.copy_ #[47, 47] 3 #[.slice (some ⟨G, 0, none⟩) 48 48, .slice A5 28 c5]).run Try.prog W6.drew = .ok (.int .i64 28) W7 := by
        rw [cp1, hW7, By.len, hbl]; rfl
      have cp2 := run_copy_sl (P := Try.prog) W7 47 47 3 5 1 hu hsz G 28 20 20 (some ⟨w.heap.size + 1, 3, none⟩) 16 16 (By (dataL e)) 0 W7.heap.size (sl_data hd7 (by omega)) (By.sized _) (By.ones _) (by rw [By.len, dataL_len]; rfl) (by rw [By.len, dataL_len, hc7]; exact canW_part hc6 28 16 (by omega))
      obtain ⟨W8, hW8⟩ : ∃ W8, wr W7 G 28 (flat (By (dataL e))).toArray = W8 := ⟨_, rfl⟩
      have hc28 : canW W7 G 28 (flat (By (dataL e))).toArray.size = true := by rw [hf16, hc7]; exact canW_part hc6 28 16 (by omega)
      have hd8 : rd W8 (w.heap.size + 1) 3 16 = some e.data.toArray := by rw [← hW8]; exact (rd_wr_other _ _ _ _ _ _ _ hne).trans hd7
      have hr8 : rd W8 G 0 28 = some (flat (By bs)).toArray := by rw [← hW8]; exact (rd_wr_apart _ _ _ _ _ _ hc28 (.inl (by omega))).trans hr7
      have ht8 : rd W8 G 28 16 = some (flat (By (dataL e))).toArray := by rw [← hW8]; exact rd_wr_same _ _ _ _ _ hf16.symm (by rw [← hf16]; exact hc28)
      have hq8 : rd W8 G 44 4 = some #[.int .u8 0, .int .u8 0, .int .u8 0, .int .u8 0] := by rw [← hW8]; exact (rd_wr_apart _ _ _ _ _ _ hc28 (.inr (by rw [hf16]; omega))).trans hq7
      have hb8 : Below (w.heap.size + 2) W0 W8 := by rw [← hW8]; exact below_wr hb7 (by omega) _ _
      have z8 : W8.heap.size = G + 1 := by rw [← hW8, size_wr]; exact z7
      have hcp2 : (Builtin.copy_ #[47, 47] 3 #[.slice (some ⟨G, 28, none⟩) 20 20, .slice (some ⟨w.heap.size + 1, 3, none⟩) 16 16]).run Try.prog W7 = .ok (.int .i64 16) W8 := by
        rw [cp2, hW8, By.len, dataL_len]; rfl
      have hfin : Sl W8 w.heap.size W8.heap.size 1 (some ⟨G, 0, none⟩) (By (bytesE h0 h1 h2 h3 e)) := by
        refine Sl.of_rd (By.sized _) ?_ (by omega) (by omega)
        rw [By.len, bytesE_len]
        rw [bytesE_eq, hbs, ← flat_join]
        exact (show rd W8 G 0 (28 + 16 + 4) = _ from rd_join (rd_join hr8 ht8) hq8)
      have hbe : Below w.heap.size w W8 := b0.trans (hb8.mono (by omega))
      replace hfin := hide hfin; replace hbe := hide hbe; replace z6 := hide z6; replace z7 := hide z7; replace z8 := hide z8
      clear cp1 cp2 hr6 hr7 hq7 hr8 ht8 hq8 hf28 hf16 hc7 hc28 hc0 hc6 hs6 hb7 hb8 hbl hbs hsz hu hW8 hW7
      rw [hW6, hG]
      clear hW6 hG
      refine start_ (n := 8) (S := fun w' => rd w' (w.heap.size + 1) 3 16 = some e.data.toArray) (ds := []) #[false, false, false, false, false, false, false, false] (by kernel_rfl) rfl rfl (hd6) (fun hHeld => ?_)
      refine pure_ (i := 0) (N := some 42) (v := ?_) (a' := ?_) #[true, false, false, false, false, false, false, false] rfl rfl (by kernel_rfl) (fun _ _ _ h => h) (Or.inl ⟨by rfl, ?_⟩) ?_ ?_
      rotate_left
      · intro w'
        go_simp
        with_reducible rfl
      rotate_left
      · simp only [Act.put, List.setIfInBounds_toArray, List.set_cons_zero, List.set_cons_succ, i64_w, i32_w]
        rfl
      refine pure_ (i := 1) (N := some 43) (v := ?_) (a' := ?_) #[true, true, false, false, false, false, false, false] rfl rfl (by kernel_rfl) (fun _ _ _ h => h) (Or.inl ⟨by rfl, ?_⟩) ?_ ?_
      rotate_left
      · intro w'
        go_simp
        with_reducible rfl
      rotate_left
      · simp only [Act.put, List.setIfInBounds_toArray, List.set_cons_zero, List.set_cons_succ, i64_w, i32_w]
        rfl
      refine pure_ (i := 2) (N := some 44) (v := ?_) (a' := ?_) #[true, true, true, false, false, false, false, false] rfl rfl (by kernel_rfl) (fun _ _ _ h => h) (Or.inl ⟨by rfl, ?_⟩) ?_ ?_
      rotate_left
      · intro w'
        go_simp
        with_reducible rfl
      rotate_left
      · simp only [Act.put, List.setIfInBounds_toArray, List.set_cons_zero, List.set_cons_succ, i64_w, i32_w]
        rfl
      refine pure_ (i := 5) (N := some 47) (v := ?_) (a' := ?_) #[true, true, true, false, false, true, false, false] rfl rfl (by kernel_rfl) (fun _ _ _ h => h) (Or.inl ⟨by rfl, ?_⟩) ?_ ?_
      rotate_left
      · intro w'
        go_simp
        with_reducible rfl
      rotate_left
      · simp only [Act.put, List.setIfInBounds_toArray, List.set_cons_zero, List.set_cons_succ, i64_w, i32_w]
        rfl
      refine pure_ (i := 6) (N := some 48) (v := ?_) (a' := ?_) #[true, true, true, false, false, true, true, false] rfl rfl (by kernel_rfl) (fun _ _ _ h => h) (Or.inl ⟨by rfl, ?_⟩) ?_ ?_
      rotate_left
      · intro w'
        go_simp
        with_reducible rfl
      rotate_left
      · simp only [Act.put, List.setIfInBounds_toArray, List.set_cons_zero, List.set_cons_succ, i64_w, i32_w]
        rfl
      refine one_ (i := 3) (N := some 45) #[true, true, true, true, false, true, true, false] rfl rfl (by kernel_rfl) (by decide) (fun K hK => ?_)
      refine step_copy_ex (.tmp 43) (.tmp 44) 47 47 rfl (by rfl) ⟨_, _, hcp1, ?_⟩
      refine hK.out _ _ hd7 (fun hHeld => ?_)
      clear hK K
      refine norm_ (a' := ?_) ?_ ?_
      rotate_left
      · show Act.put _ (some 45) _ = _
        simp only [Act.put, List.setIfInBounds_toArray, List.set_cons_zero, List.set_cons_succ, i64_w, i32_w]
        rfl
      refine pure_ (i := 4) (N := some 46) (v := ?_) (a' := ?_) #[true, true, true, true, true, true, true, false] rfl rfl (by kernel_rfl) (fun _ _ _ h => h) (Or.inl ⟨by rfl, ?_⟩) ?_ ?_
      rotate_left
      · intro w'
        go_simp
        with_reducible rfl
      rotate_left
      · simp only [Act.put, List.setIfInBounds_toArray, List.set_cons_zero, List.set_cons_succ, i64_w, i32_w]
        rfl
      refine one_ (i := 7) (N := some 49) #[true, true, true, true, true, true, true, true] rfl rfl (by kernel_rfl) (by decide) (fun K hK => ?_)
      refine step_copy_ex (.tmp 46) (.tmp 48) 47 47 rfl (by rfl) ⟨_, _, hcp2, ?_⟩
      refine hK.out _ _ hd8 (fun hHeld => ?_)
      clear hK K
      refine norm_ (a' := ?_) ?_ ?_
      rotate_left
      · show Act.put _ (some 49) _ = _
        simp only [Act.put, List.setIfInBounds_toArray, List.set_cons_zero, List.set_cons_succ, i64_w, i32_w]
        rfl
      refine done_ (by kernel_rfl) ?_
      go_wp2_with fail
      go_ret
      exact ⟨⟨_, rfl, unhide hfin⟩, unhide hbe⟩
end Go.Proofs.Ytibileffpgnjhaa.Base
