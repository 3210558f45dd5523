/-
  A slot's bytes (entry.Bytes, and the document's).
-/
import Derived.Test.YtibileffpgnjhaaEc
import Derived.Test.YtibileffpgnjhaaWLast
import Derived.Test.YtibileffpgnjhaaWZeros
import Derived.Deep.DeepCutAuto
namespace Go.Proofs.Ytibileffpgnjhaa.Base
open Go.RowKit Go.Proofs.YtibileffpgnjhaaW.PrintWords Go.Proofs.YtibileffpgnjhaaW.PrintLast
set_option linter.unusedSimpArgs false
set_option linter.unusedVariables false
attribute [local go_sem] Ent.arr0 Ent.arr1 Ent.arr2 Ent.set1 Ent.set2 Ent.arr_size Ent.okW Ent.lit run_ldV_ent run_stV_ent ldR_some stR_true rd_new_whole rd_alloc canW_new canW_alloc wr_new wr_alloc rd_drew rd_drewN canW_drew canW_drewN run_bsS_ent run_bsS_ent0 run_eqI_ent rd_setCell rd_setCell_same canW_setCell' Option.map_some cell_wr_other rd_wr_same rd_wr_other
attribute [local go_sem ↓] ldV_ent stV_ent bsS_ent eqI_ent
attribute [local go_sem] Ent.arr0g Ent.arr1g Ent.arr2g run_ldV_dat rd_dat run_eqI_dat dat_lit
attribute [local go_sem ↓] ldV_dat eqI_dat

def dataL (e : Ent) : List Int := List.ofFn e.d
theorem dataL_len (e : Ent) : (dataL e).length = 16 := by simp [dataL]
theorem flat_data (e : Ent) : (flat (By (dataL e))).toArray = e.data.toArray := rfl
/-- a slot's bytes -/
def bytesE (h0 h1 h2 h3 : Int) (e : Ent) : List Int := leI h0 8 ++ [h1 % 256] ++ [h2 % 256] ++ [h3 % 256] ++ [e.k % 256] ++ leI e.l 8 ++ leI e.s 8 ++ dataL e ++ [0, 0, 0, 0]
theorem bytesE_len (h0 h1 h2 h3 : Int) (e : Ent) : (bytesE h0 h1 h2 h3 e).length = 48 := by simp [bytesE, leI_len, dataL_len]
theorem sl_data {w : World} {e : Ent} {b : Nat} (h : rd w b 3 16 = some e.data.toArray) (hb : b < w.heap.size) : Sl w 0 w.heap.size 1 (some ⟨b, 3, none⟩) (By (dataL e)) :=
  Sl.of_rd (By.sized _) (by rw [By.len, dataL_len, flat_data]; exact h) (Nat.zero_le _) hb
theorem flat_by (bs : List Int) : flat (By bs) = bs.map (Value.int .u8) := by
  induction bs with
  | nil => rfl
  | cons b bs ih => simp only [By, flat, List.map_cons, List.flatMap_cons] at ih ⊢; rw [ih]; rfl
/-- noughts behind bytes that the call owns -/
theorem run_append_by0 (w : World) (base n m : Nat) (v : Value) (bs : List Int) (hown : Ow w base 5 1 v (By bs)) (hn : bs.length = n) (hm : m ≤ 1000) (hsm : n + m ≤ 1000000) (hbase : base ≤ w.heap.size) (ty : TypeId) :
    ∃ A' c' w', (Builtin.append_ #[47, 3] ty #[v, .int .i64 m]).run Try.prog w = .ok (.slice A' (n + m) c') w' ∧ Ow w' base 5 1 (.slice A' (n + m) c') (By (bs ++ List.replicate m 0)) ∧ w.grownBy w' v.ownBlock ∧ n + m ≤ c' := by
  obtain ⟨i0, hi0, hz0, hz1, hz2⟩ := info_parts info_u8
  have hzc : ∀ m : Nat, (Builtin.zeroCells (Value.int .u8 0).cells m).toList = (List.replicate m (Value.int .u8 0)) := by
    intro m
    simp [Builtin.zeroCells, Value.cells, Nat.mod_one, List.map_const']
  obtain ⟨v', w', hrun, ho, hg, _⟩ := Go.Proofs.YtibileffpgnjhaaW.PrintWords.run_append_zeros (P := Try.prog) w base 47 3 ty 5 i0 _ 1 1 Try.underlying47 Try.underlying3 hi0 hz0 hz1 hz2 rfl (by omega) (by omega) v bs.length (flat (By bs)) (by have := hown; unfold Ow at this; rw [By.len] at this; exact this) .i64 m (by rw [hzc]; intro u hu; rw [List.mem_replicate] at hu; rw [hu.2]; rfl) (by omega) hbase
  rw [hzc] at ho
  have ho' : Ow w' base 5 1 v' (By (bs ++ List.replicate m 0)) := by
    unfold Ow
    rw [By.len, List.length_append, List.length_replicate, flat_by, List.map_append, List.map_replicate, ← flat_by]
    exact ho
  obtain ⟨A', c', hv, hc, _⟩ := ho'.form
  rw [By.len, List.length_append, List.length_replicate, hn] at hv hc
  rw [hv] at hrun ho'
  exact ⟨A', c', w', hrun, ho', hg, hc⟩

theorem step_append0_ex {P : Program} {ops : Array Oper} {o : Oper} {a : Act} {w : World} {K : Act → World → Prop} {Q : Exit → Act → World → Prop} {E : Prop} (s x : Operand) (t ti : TypeId)
    (ho : o.op = .call { callee := .builtin .append, args := #[s, x], argTypes := #[t, ti] }) (hw : Region.wanted o (yielded ops a.tmps) = true)
    (h : ∃ v w', (Builtin.append_ #[t, ti] o.type #[a.eval s, a.eval x]).run P w = .ok v w' ∧ K (a.put o.dst v) w') :
    if Region.wanted o (yielded ops a.tmps) = true then Oper.wp P o a w K Q else E := by
  obtain ⟨v, w', hrun, h⟩ := h
  rw [if_pos hw]
  unfold Oper.wp execOp
  simp only [ho, resolve, invoke, builtin, Sem.run_bind, Sem.run_pure, Result.andThen_ok, List.map_toArray, List.map_cons, List.map_nil, hrun]
  exact h
set_option maxRecDepth 100000 in
set_option maxHeartbeats 4000000 in
theorem rbytes_any (h0 h1 h2 h3 : Int) (e : Ent) (w : World) (hh0 : I64 h0) (hh1 : I64 h1) (hh2 : I64 h2) (hh3 : I64 h3) (he0 : I64 e.k) (he1 : I64 e.l) (he2 : I64 e.s) :
    Calls Try.prog 33 #[.agg #[.int .i64 h0, .int .i64 h1, .int .i64 h2, .int .i64 h3], .agg e.arr] w fun x w' =>
      (∃ A c, x = .returned (.slice A 48 c) ∧ 48 ≤ c ∧ Ow w' w.heap.size 5 1 (.slice A 48 c) (By (bytesE h0 h1 h2 h3 e))) ∧ Below w.heap.size w w' := by
  go_enter Try.func33, Try.ntmps33
  go_wp2_with fail
  obtain ⟨W0, hW⟩ : ∃ W0, ((w.alloc (Obj.cells #[Value.int .i64 h0, Value.int .i64 h1, Value.int .i64 h2, Value.int .i64 h3] 51)).alloc (Obj.cells e.arr 44)) = W0 := ⟨_, rfl⟩
  rw [hW]
  have z0 : W0.heap.size = w.heap.size + 2 := by rw [← hW]; simp
  have b0 : Below w.heap.size w W0 := by rw [← hW]; exact ((Below.refl _ _).alloc (Nat.le_refl _) _).alloc (by simp) _
  have f1 : W0.cell? ⟨w.heap.size, 1, none⟩ = some (.int .i64 h1) := by rw [← hW]; clear hW z0 b0; go_simp
  have f2 : W0.cell? ⟨w.heap.size, 2, none⟩ = some (.int .i64 h2) := by rw [← hW]; clear hW z0 b0; go_simp
  have f3 : W0.cell? ⟨w.heap.size, 3, none⟩ = some (.int .i64 h3) := by rw [← hW]; clear hW z0 b0; go_simp
  have f4 : W0.cell? ⟨w.heap.size + 1, 0, none⟩ = some (.int .i64 e.k) := by rw [← hW]; clear hW z0 b0; go_simp
  have f5 : W0.cell? ⟨w.heap.size + 1, 1, none⟩ = some (.int .i64 e.l) := by rw [← hW]; clear hW z0 b0; go_simp
  have f6 : W0.cell? ⟨w.heap.size + 1, 2, none⟩ = some (.int .i64 e.s) := by rw [← hW]; clear hW z0 b0; go_simp
  have f7 : rd W0 (w.heap.size + 1) 3 16 = some e.data.toArray := by rw [← hW]; exact rd_dat _ _ _ (by simp)
  clear hW
  have keep0 : ∀ w', Below (w.heap.size + 2) W0 w' → (fun w' => w'.cell? ⟨w.heap.size, 1, none⟩ = some (.int .i64 h1) ∧ w'.cell? ⟨w.heap.size, 2, none⟩ = some (.int .i64 h2) ∧ w'.cell? ⟨w.heap.size, 3, none⟩ = some (.int .i64 h3) ∧ w'.cell? ⟨w.heap.size + 1, 0, none⟩ = some (.int .i64 e.k) ∧ w'.cell? ⟨w.heap.size + 1, 1, none⟩ = some (.int .i64 e.l) ∧ w'.cell? ⟨w.heap.size + 1, 2, none⟩ = some (.int .i64 e.s) ∧ rd w' (w.heap.size + 1) 3 16 = some e.data.toArray) w' := fun w' h => ⟨(h.cell (p := ⟨w.heap.size, 1, none⟩) (by show w.heap.size < _; omega)).trans f1, (h.cell (p := ⟨w.heap.size, 2, none⟩) (by show w.heap.size < _; omega)).trans f2, (h.cell (p := ⟨w.heap.size, 3, none⟩) (by show w.heap.size < _; omega)).trans f3, (h.cell (p := ⟨w.heap.size + 1, 0, none⟩) (by show w.heap.size + 1 < _; omega)).trans f4, (h.cell (p := ⟨w.heap.size + 1, 1, none⟩) (by show w.heap.size + 1 < _; omega)).trans f5, (h.cell (p := ⟨w.heap.size + 1, 2, none⟩) (by show w.heap.size + 1 < _; omega)).trans f6, (rd_below h (by omega) _ _).trans f7⟩
  clear f1 f2 f3 f4 f5 f6 f7
  replace z0 := hide z0
  have hb0 : w.heap.size + 2 ≤ W0.heap.size := by rw [unhide z0]; omega
  refine (rint_any [] h0 W0 hh0 (by simp) (w.heap.size + 2) hb0 none 0 0 rfl (Nat.le_refl _) (Ow.nil _ _ _ _)).mono ?_
  rintro x w1 ⟨⟨A1, c1, rfl, hc1, ho1⟩, hb1⟩
  rw [List.nil_append] at ho1
  have kw1d : Below (w.heap.size + 2) W0 w1.drew := hb1.drew
  have zw1d : w.heap.size + 2 ≤ w1.drew.heap.size := Nat.le_trans hb0 hb1.size
  have ho1d : Ow w1.drew (w.heap.size + 2) 5 1 (.slice A1 8 c1) (By (leI h0 8)) := ho1
  go_upto_region 2 with fail
  refine start_ (n := 14) (S := fun w' => w'.cell? ⟨w.heap.size, 1, none⟩ = some (.int .i64 h1) ∧ w'.cell? ⟨w.heap.size, 2, none⟩ = some (.int .i64 h2) ∧ w'.cell? ⟨w.heap.size, 3, none⟩ = some (.int .i64 h3) ∧ w'.cell? ⟨w.heap.size + 1, 0, none⟩ = some (.int .i64 e.k) ∧ w'.cell? ⟨w.heap.size + 1, 1, none⟩ = some (.int .i64 e.l) ∧ w'.cell? ⟨w.heap.size + 1, 2, none⟩ = some (.int .i64 e.s) ∧ rd w' (w.heap.size + 1) 3 16 = some e.data.toArray) (ds := []) #[false, false, false, false, false, false, false, false, false, false, false, false, false, false] (by kernel_rfl) rfl rfl (keep0 _ kw1d) (fun hHeld => ?_)
  refine pure_ (i := 0) (N := some 9) (v := ?_) (a' := ?_) #[true, false, false, false, false, false, false, false, false, false, false, false, false, false] rfl rfl (by kernel_rfl) (fun _ _ _ h => h) (Or.inl ⟨by rfl, ?_⟩) ?_ ?_
  rotate_left
  · intro w'
    go_simp
    with_reducible rfl
  rotate_left
  · simp only [Act.put, List.setIfInBounds_toArray, List.set_cons_zero, List.set_cons_succ, i64_w, i32_w]
    rfl
  refine pure_ (i := 1) (N := some 10) (v := ?_) (a' := ?_) #[true, true, false, false, false, false, false, false, false, false, false, false, false, false] rfl rfl (by kernel_rfl) (fun _ _ _ h => h) (Or.inl ⟨by rfl, ?_⟩) ?_ ?_
  rotate_left
  · intro w'
    go_simp
    with_reducible rfl
  rotate_left
  · simp only [Act.put, List.setIfInBounds_toArray, List.set_cons_zero, List.set_cons_succ, i64_w, i32_w]
    rfl
  refine take_ (i := 2) (N := some 11) (v := ?_) (a' := ?_) #[true, true, true, false, false, false, false, false, false, false, false, false, false, false] rfl rfl (by kernel_rfl) (fun _ _ _ h => h) (Or.inl ⟨by rfl, ?_⟩) hHeld ?_ ?_
  rotate_left
  · intro w' hs_; obtain ⟨s0, s1, s2, s3, s4, s5, s6⟩ := hs_
    go_simp
    with_reducible rfl
  rotate_left
  · simp only [Act.put, List.setIfInBounds_toArray, List.set_cons_zero, List.set_cons_succ, i64_w, i32_w]
    rfl
  refine pure_ (i := 4) (N := some 13) (v := ?_) (a' := ?_) #[true, true, true, false, true, false, false, false, false, false, false, false, false, false] rfl rfl (by kernel_rfl) (fun _ _ _ h => h) (Or.inl ⟨by rfl, ?_⟩) ?_ ?_
  rotate_left
  · intro w'
    go_simp
    with_reducible rfl
  rotate_left
  · simp only [Act.put, List.setIfInBounds_toArray, List.set_cons_zero, List.set_cons_succ, i64_w, i32_w]
    rfl
  refine take_ (i := 5) (N := some 14) (v := ?_) (a' := ?_) #[true, true, true, false, true, true, false, false, false, false, false, false, false, false] rfl rfl (by kernel_rfl) (fun _ _ _ h => h) (Or.inl ⟨by rfl, ?_⟩) hHeld ?_ ?_
  rotate_left
  · intro w' hs_; obtain ⟨s0, s1, s2, s3, s4, s5, s6⟩ := hs_
    go_simp
    with_reducible rfl
  rotate_left
  · simp only [Act.put, List.setIfInBounds_toArray, List.set_cons_zero, List.set_cons_succ, i64_w, i32_w]
    rfl
  refine pure_ (i := 7) (N := some 16) (v := ?_) (a' := ?_) #[true, true, true, false, true, true, false, true, false, false, false, false, false, false] rfl rfl (by kernel_rfl) (fun _ _ _ h => h) (Or.inl ⟨by rfl, ?_⟩) ?_ ?_
  rotate_left
  · intro w'
    go_simp
    with_reducible rfl
  rotate_left
  · simp only [Act.put, List.setIfInBounds_toArray, List.set_cons_zero, List.set_cons_succ, i64_w, i32_w]
    rfl
  refine take_ (i := 8) (N := some 17) (v := ?_) (a' := ?_) #[true, true, true, false, true, true, false, true, true, false, false, false, false, false] rfl rfl (by kernel_rfl) (fun _ _ _ h => h) (Or.inl ⟨by rfl, ?_⟩) hHeld ?_ ?_
  rotate_left
  · intro w' hs_; obtain ⟨s0, s1, s2, s3, s4, s5, s6⟩ := hs_
    go_simp
    with_reducible rfl
  rotate_left
  · simp only [Act.put, List.setIfInBounds_toArray, List.set_cons_zero, List.set_cons_succ, i64_w, i32_w]
    rfl
  refine pure_ (i := 10) (N := some 19) (v := ?_) (a' := ?_) #[true, true, true, false, true, true, false, true, true, false, true, false, false, false] rfl rfl (by kernel_rfl) (fun _ _ _ h => h) (Or.inl ⟨by rfl, ?_⟩) ?_ ?_
  rotate_left
  · intro w'
    go_simp
    with_reducible rfl
  rotate_left
  · simp only [Act.put, List.setIfInBounds_toArray, List.set_cons_zero, List.set_cons_succ, i64_w, i32_w]
    rfl
  refine take_ (i := 11) (N := some 20) (v := ?_) (a' := ?_) #[true, true, true, false, true, true, false, true, true, false, true, true, false, false] rfl rfl (by kernel_rfl) (fun _ _ _ h => h) (Or.inl ⟨by rfl, ?_⟩) hHeld ?_ ?_
  rotate_left
  · intro w' hs_; obtain ⟨s0, s1, s2, s3, s4, s5, s6⟩ := hs_
    go_simp
    with_reducible rfl
  rotate_left
  · simp only [Act.put, List.setIfInBounds_toArray, List.set_cons_zero, List.set_cons_succ, i64_w, i32_w]
    rfl
  refine one_ (i := 3) (N := some 12) #[true, true, true, true, true, true, false, true, true, false, true, true, false, false] rfl rfl (by kernel_rfl) (by decide) (fun K hK => ?_)
  refine goes_ Try.func54 (by kernel_rfl) rfl #[.slice A1 8 c1, .int .i64 h1] (by rfl) rfl rfl (by (try simp only [List.map_toArray, List.map_cons, List.map_nil]); first | done | rfl) ?_
  with_reducible refine (rbyte_any (leI h0 8) h1 w1.drew hh1 (by rw [leI_len]; omega) (w.heap.size + 2) zw1d A1 8 c1 (leI_len _ _) ho1d).mono ?_
  rintro x w2 ⟨⟨A2, c2, rfl, hc2, ho2⟩, hbw2⟩
  have kw2 : Below (w.heap.size + 2) W0 w2 := Below.trans kw1d hbw2
  have zw2 := kw2.size
  refine ⟨_, rfl, hK.out _ _ (keep0 _ kw2) (fun hHeld => ?_)⟩
  clear hK K
  refine norm_ (a' := ?_) ?_ ?_
  rotate_left
  · show Act.put _ (some 12) _ = _
    simp only [Act.put, List.setIfInBounds_toArray, List.set_cons_zero, List.set_cons_succ, i64_w, i32_w]
    rfl
  refine one_ (i := 6) (N := some 15) #[true, true, true, true, true, true, true, true, true, false, true, true, false, false] rfl rfl (by kernel_rfl) (by decide) (fun K hK => ?_)
  refine goes_ Try.func54 (by kernel_rfl) rfl #[.slice A2 9 c2, .int .i64 h2] (by rfl) rfl rfl (by (try simp only [List.map_toArray, List.map_cons, List.map_nil]); first | done | rfl) ?_
  with_reducible refine (rbyte_any _ h2 w2 hh2 (by simp [leI_len]) (w.heap.size + 2) (by omega) A2 9 c2 (by simp [leI_len]) ho2).mono ?_
  rintro x w3 ⟨⟨A3, c3, rfl, hc3, ho3⟩, hbw3⟩
  have kw3 : Below (w.heap.size + 2) W0 w3 := Below.trans kw2 hbw3
  have zw3 := kw3.size
  refine ⟨_, rfl, hK.out _ _ (keep0 _ kw3) (fun hHeld => ?_)⟩
  clear hK K
  refine norm_ (a' := ?_) ?_ ?_
  rotate_left
  · show Act.put _ (some 15) _ = _
    simp only [Act.put, List.setIfInBounds_toArray, List.set_cons_zero, List.set_cons_succ, i64_w, i32_w]
    rfl
  refine one_ (i := 9) (N := some 18) #[true, true, true, true, true, true, true, true, true, true, true, true, false, false] rfl rfl (by kernel_rfl) (by decide) (fun K hK => ?_)
  refine goes_ Try.func54 (by kernel_rfl) rfl #[.slice A3 10 c3, .int .i64 h3] (by rfl) rfl rfl (by (try simp only [List.map_toArray, List.map_cons, List.map_nil]); first | done | rfl) ?_
  with_reducible refine (rbyte_any _ h3 w3 hh3 (by simp [leI_len]) (w.heap.size + 2) (by omega) A3 10 c3 (by simp [leI_len]) ho3).mono ?_
  rintro x w4 ⟨⟨A4, c4, rfl, hc4, ho4⟩, hbw4⟩
  have kw4 : Below (w.heap.size + 2) W0 w4 := Below.trans kw3 hbw4
  have zw4 := kw4.size
  refine ⟨_, rfl, hK.out _ _ (keep0 _ kw4) (fun hHeld => ?_)⟩
  clear hK K
  refine norm_ (a' := ?_) ?_ ?_
  rotate_left
  · show Act.put _ (some 18) _ = _
    simp only [Act.put, List.setIfInBounds_toArray, List.set_cons_zero, List.set_cons_succ, i64_w, i32_w]
    rfl
  refine one_ (i := 12) (N := some 21) #[true, true, true, true, true, true, true, true, true, true, true, true, true, false] rfl rfl (by kernel_rfl) (by decide) (fun K hK => ?_)
  refine goes_ Try.func54 (by kernel_rfl) rfl #[.slice A4 11 c4, .int .i64 e.k] (by rfl) rfl rfl (by (try simp only [List.map_toArray, List.map_cons, List.map_nil]); first | done | rfl) ?_
  with_reducible refine (rbyte_any _ e.k w4 he0 (by simp [leI_len]) (w.heap.size + 2) (by omega) A4 11 c4 (by simp [leI_len]) ho4).mono ?_
  rintro x w5 ⟨⟨A5, c5, rfl, hc5, ho5⟩, hbw5⟩
  have kw5 : Below (w.heap.size + 2) W0 w5 := Below.trans kw4 hbw5
  have zw5 := kw5.size
  refine ⟨_, rfl, hK.out _ _ (keep0 _ kw5) (fun hHeld => ?_)⟩
  clear hK K
  refine norm_ (a' := ?_) ?_ ?_
  rotate_left
  · show Act.put _ (some 21) _ = _
    simp only [Act.put, List.setIfInBounds_toArray, List.set_cons_zero, List.set_cons_succ, i64_w, i32_w]
    rfl
  refine pure_ (i := 13) (N := some 5) (v := ?_) (a' := ?_) #[true, true, true, true, true, true, true, true, true, true, true, true, true, true] rfl rfl (by kernel_rfl) (fun _ _ _ h => h) (Or.inl ⟨by rfl, ?_⟩) ?_ ?_
  rotate_left
  · intro w'
    go_simp
    with_reducible rfl
  rotate_left
  · simp only [Act.put, List.setIfInBounds_toArray, List.set_cons_zero, List.set_cons_succ, i64_w, i32_w]
    rfl
  refine done_ (by kernel_rfl) ?_
  have kw5d : Below (w.heap.size + 2) W0 w5.drew := kw5.drew
  have zw5d : w.heap.size + 2 ≤ w5.drew.heap.size := Nat.le_trans hb0 kw5.size
  have ho5d : Ow w5.drew (w.heap.size + 2) 5 1 (.slice A5 12 c5) (By (leI h0 8 ++ [h1 % 256] ++ [h2 % 256] ++ [h3 % 256] ++ [e.k % 256])) := ho5
  have hc5d : 12 ≤ c5 := hc5
  go_upto_region 3 with fail
  refine start_ (n := 11) (S := fun w' => w'.cell? ⟨w.heap.size, 1, none⟩ = some (.int .i64 h1) ∧ w'.cell? ⟨w.heap.size, 2, none⟩ = some (.int .i64 h2) ∧ w'.cell? ⟨w.heap.size, 3, none⟩ = some (.int .i64 h3) ∧ w'.cell? ⟨w.heap.size + 1, 0, none⟩ = some (.int .i64 e.k) ∧ w'.cell? ⟨w.heap.size + 1, 1, none⟩ = some (.int .i64 e.l) ∧ w'.cell? ⟨w.heap.size + 1, 2, none⟩ = some (.int .i64 e.s) ∧ rd w' (w.heap.size + 1) 3 16 = some e.data.toArray) (ds := []) #[false, false, false, false, false, false, false, false, false, false, false] (by kernel_rfl) rfl rfl (keep0 _ kw5d) (fun hHeld => ?_)
  refine pure_ (i := 0) (N := some 22) (v := ?_) (a' := ?_) #[true, false, false, false, false, false, false, false, false, false, false] rfl rfl (by kernel_rfl) (fun _ _ _ h => h) (Or.inl ⟨by rfl, ?_⟩) ?_ ?_
  rotate_left
  · intro w'
    go_simp
    with_reducible rfl
  rotate_left
  · simp only [Act.put, List.setIfInBounds_toArray, List.set_cons_zero, List.set_cons_succ, i64_w, i32_w]
    rfl
  refine pure_ (i := 1) (N := some 23) (v := ?_) (a' := ?_) #[true, true, false, false, false, false, false, false, false, false, false] rfl rfl (by kernel_rfl) (fun _ _ _ h => h) (Or.inl ⟨by rfl, ?_⟩) ?_ ?_
  rotate_left
  · intro w'
    go_simp
    with_reducible rfl
  rotate_left
  · simp only [Act.put, List.setIfInBounds_toArray, List.set_cons_zero, List.set_cons_succ, i64_w, i32_w]
    rfl
  refine take_ (i := 2) (N := some 24) (v := ?_) (a' := ?_) #[true, true, true, false, false, false, false, false, false, false, false] rfl rfl (by kernel_rfl) (fun _ _ _ h => h) (Or.inl ⟨by rfl, ?_⟩) hHeld ?_ ?_
  rotate_left
  · intro w' hs_; obtain ⟨s0, s1, s2, s3, s4, s5, s6⟩ := hs_
    go_simp
    with_reducible rfl
  rotate_left
  · simp only [Act.put, List.setIfInBounds_toArray, List.set_cons_zero, List.set_cons_succ, i64_w, i32_w]
    rfl
  refine pure_ (i := 4) (N := some 26) (v := ?_) (a' := ?_) #[true, true, true, false, true, false, false, false, false, false, false] rfl rfl (by kernel_rfl) (fun _ _ _ h => h) (Or.inl ⟨by rfl, ?_⟩) ?_ ?_
  rotate_left
  · intro w'
    go_simp
    with_reducible rfl
  rotate_left
  · simp only [Act.put, List.setIfInBounds_toArray, List.set_cons_zero, List.set_cons_succ, i64_w, i32_w]
    rfl
  refine take_ (i := 5) (N := some 27) (v := ?_) (a' := ?_) #[true, true, true, false, true, true, false, false, false, false, false] rfl rfl (by kernel_rfl) (fun _ _ _ h => h) (Or.inl ⟨by rfl, ?_⟩) hHeld ?_ ?_
  rotate_left
  · intro w' hs_; obtain ⟨s0, s1, s2, s3, s4, s5, s6⟩ := hs_
    go_simp
    with_reducible rfl
  rotate_left
  · simp only [Act.put, List.setIfInBounds_toArray, List.set_cons_zero, List.set_cons_succ, i64_w, i32_w]
    rfl
  refine pure_ (i := 7) (N := some 29) (v := ?_) (a' := ?_) #[true, true, true, false, true, true, false, true, false, false, false] rfl rfl (by kernel_rfl) (fun _ _ _ h => h) (Or.inl ⟨by rfl, ?_⟩) ?_ ?_
  rotate_left
  · intro w'
    go_simp
    with_reducible rfl
  rotate_left
  · simp only [Act.put, List.setIfInBounds_toArray, List.set_cons_zero, List.set_cons_succ, i64_w, i32_w]
    rfl
  refine pure_ (i := 8) (N := some 30) (v := ?_) (a' := ?_) #[true, true, true, false, true, true, false, true, true, false, false] rfl rfl (by kernel_rfl) (fun _ _ _ h => h) (Or.inl ⟨by rfl, ?_⟩) ?_ ?_
  rotate_left
  · intro w'
    go_simp
    with_reducible rfl
  rotate_left
  · simp only [Act.put, List.setIfInBounds_toArray, List.set_cons_zero, List.set_cons_succ, i64_w, i32_w]
    rfl
  refine one_ (i := 3) (N := some 25) #[true, true, true, true, true, true, false, true, true, false, false] rfl rfl (by kernel_rfl) (by decide) (fun K hK => ?_)
  refine goes_ Try.func53 (by kernel_rfl) rfl #[.slice A5 12 c5, .int .i64 e.l] (by rfl) rfl rfl (by (try simp only [List.map_toArray, List.map_cons, List.map_nil]); first | done | rfl) ?_
  with_reducible refine (rint_any _ e.l w5.drew he1 (by simp [leI_len]) (w.heap.size + 2) zw5d A5 12 c5 (by simp [leI_len]) hc5d ho5d).mono ?_
  rintro x w6 ⟨⟨A6, c6, rfl, hc6, ho6⟩, hbw6⟩
  have kw6 : Below (w.heap.size + 2) W0 w6 := Below.trans kw5d hbw6
  have zw6 := kw6.size
  refine ⟨_, rfl, hK.out _ _ (keep0 _ kw6) (fun hHeld => ?_)⟩
  clear hK K
  refine norm_ (a' := ?_) ?_ ?_
  rotate_left
  · show Act.put _ (some 25) _ = _
    simp only [Act.put, List.setIfInBounds_toArray, List.set_cons_zero, List.set_cons_succ, i64_w, i32_w]
    rfl
  refine one_ (i := 6) (N := some 28) #[true, true, true, true, true, true, true, true, true, false, false] rfl rfl (by kernel_rfl) (by decide) (fun K hK => ?_)
  refine goes_ Try.func53 (by kernel_rfl) rfl #[.slice A6 20 c6, .int .i64 e.s] (by rfl) rfl rfl (by (try simp only [List.map_toArray, List.map_cons, List.map_nil]); first | done | rfl) ?_
  with_reducible refine (rint_any _ e.s w6 he2 (by simp [leI_len]) (w.heap.size + 2) (by omega) A6 20 c6 (by simp [leI_len]) hc6 ho6).mono ?_
  rintro x w7 ⟨⟨A7, c7, rfl, hc7, ho7⟩, hbw7⟩
  have kw7 : Below (w.heap.size + 2) W0 w7 := Below.trans kw6 hbw7
  have zw7 := kw7.size
  refine ⟨_, rfl, hK.out _ _ (keep0 _ kw7) (fun hHeld => ?_)⟩
  clear hK K
  refine norm_ (a' := ?_) ?_ ?_
  rotate_left
  · show Act.put _ (some 28) _ = _
    simp only [Act.put, List.setIfInBounds_toArray, List.set_cons_zero, List.set_cons_succ, i64_w, i32_w]
    rfl
  have hs7 : Sl w7 0 w7.heap.size 1 (some ⟨w.heap.size + 1, 3, none⟩) (By (dataL e)) := sl_data hHeld.2.2.2.2.2.2 (by omega)
  obtain ⟨A8, c8, w8, hrun8, ho8, hg8, hc8⟩ := run_append_by w7 (w.heap.size + 2) 28 (.slice A7 28 c7) _ (dataL e) ho7 (by simp [leI_len]) 0 w7.heap.size (some ⟨w.heap.size + 1, 3, none⟩) 16 16 hs7 (dataL_len e) (by omega) (by omega) 47
  have k8 : Below (w.heap.size + 2) W0 w8 := below_grown kw7 hg8 (by omega) (fun k ek => (ho7.lt k ek).1)
  refine one_ (i := 9) (N := some 31) #[true, true, true, true, true, true, true, true, true, true, false] rfl rfl (by kernel_rfl) (by decide) (fun K hK => ?_)
  refine step_append_ex (.tmp 28) (.tmp 30) 47 rfl (by rfl) ⟨_, _, hrun8, ?_⟩
  refine hK.out _ _ (keep0 _ k8) (fun hHeld => ?_)
  clear hK K
  refine norm_ (a' := ?_) ?_ ?_
  rotate_left
  · show Act.put _ (some 31) _ = _
    simp only [Act.put, List.setIfInBounds_toArray, List.set_cons_zero, List.set_cons_succ, i64_w, i32_w]
    rfl
  refine pure_ (i := 10) (N := some 5) (v := ?_) (a' := ?_) #[true, true, true, true, true, true, true, true, true, true, true] rfl rfl (by kernel_rfl) (fun _ _ _ h => h) (Or.inl ⟨by rfl, ?_⟩) ?_ ?_
  rotate_left
  · intro w'
    go_simp
    with_reducible rfl
  rotate_left
  · simp only [Act.put, List.setIfInBounds_toArray, List.set_cons_zero, List.set_cons_succ, i64_w, i32_w]
    rfl
  refine done_ (by kernel_rfl) ?_
  obtain ⟨A9, c9, w9, hrun9, ho9, hg9, hc9⟩ := run_append_by0 w8 (w.heap.size + 2) 44 4 (.slice A8 44 c8) _ ho8 (by simp [leI_len, dataL_len]) (by omega) (by omega) (Nat.le_trans hb0 k8.size) 47
  have k9 : Below (w.heap.size + 2) W0 w9 := below_grown k8 hg9 (Nat.le_trans hb0 k8.size) (fun k ek => (ho8.lt k ek).1)
  go_wp2_with (at_builtin; refine wpList_step (fun K hK => step_append0_ex (o := ⟨some 33, _, _, _, _, _⟩) (.tmp 32) (.const (.int .i64 4)) 47 3 rfl (by rfl) ⟨_, _, hrun9, hK _ _ ?_⟩))
  go_ret
  exact ⟨⟨A9, c9, rfl, hc9, ho9.less (by omega)⟩, b0.trans (k9.mono (by omega))⟩
end Go.Proofs.Ytibileffpgnjhaa.Base
