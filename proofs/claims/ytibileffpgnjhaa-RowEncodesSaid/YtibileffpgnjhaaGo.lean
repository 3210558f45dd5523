/-
  Numbers within; slots that may be (ramekinlaw10.Good), so many (Slots).
-/
import Derived.Test.YtibileffpgnjhaaEd
namespace Go.Proofs.Ytibileffpgnjhaa.Base
open Go.RowKit Go.Proofs.YtibileffpgnjhaaW.PrintWords Go.Proofs.YtibileffpgnjhaaW.PrintLast
set_option linter.unusedSimpArgs false
set_option linter.unusedVariables false
theorem tmod_neg_iff (a n : Int) (hn : 1 ≤ n) : (if a.tmod n < 0 then a.tmod n + n else a.tmod n) = a % n := by
  have h1 := Int.tmod_eq_emod (a := a) (b := n)
  have h2 := Int.emod_nonneg a (b := n) (by omega)
  have h3 := Int.emod_lt_of_pos a (b := n) (by omega)
  have h4 : (n.natAbs : Int) = n := by omega
  split at h1 <;> split <;> omega

set_option maxRecDepth 100000 in
theorem w10_any (a n : Int) (w : World) (ha0 : I64 a) (hn : 1 ≤ n) (hn2 : n ≤ 4611686018427387904) :
    Calls Try.prog 44 #[.int .i64 a, .int .i64 n] w fun e w' => e = .returned (.int .i64 (a % n)) ∧ w = w' := by
  have ha := ha0
  unfold I64 at ha
  have hk := tmod_neg_iff a n hn
  have h2 := Int.emod_nonneg a (b := n) (by omega)
  have h3 := Int.emod_lt_of_pos a (b := n) (by omega)
  by_cases h : a.tmod n < 0
  · rw [if_pos h] at hk
    have hb : -9223372036854775808 ≤ a.tmod n + n ∧ a.tmod n + n ≤ 9223372036854775807 := by omega
    have hw : IntKind.i64.wrap (a.tmod n + n) = a.tmod n + n := IntWalk.i64_in _ (by omega)
    replace hk := hide hk
    replace hw := hide hw
    clear h2 h3
    go_enter Try.func44, Try.ntmps44
    go_wp2
    go_ret
    refine ⟨?_, rfl⟩
    simp only [Ending.returned.injEq]
    rw [← (unhide hk)]
    simp
  · rw [if_neg h] at hk
    replace hk := hide hk
    clear h2 h3
    go_enter Try.func44, Try.ntmps44
    go_wp2
    go_ret
    exact ⟨by rw [← (unhide hk)]; rfl, rfl⟩

set_option maxRecDepth 100000 in
theorem w11_any (a n : Int) (w : World) (ha0 : I64 a) (hn : 1 ≤ n) (hn2 : n ≤ 4611686018427387904) :
    Calls Try.prog 11 #[.int .i64 a, .int .i64 n] w fun e w' => e = .returned (.int .i64 (a % n)) ∧ w = w' := by
  have ha := ha0
  unfold I64 at ha
  have hk := tmod_neg_iff a n hn
  have h2 := Int.emod_nonneg a (b := n) (by omega)
  have h3 := Int.emod_lt_of_pos a (b := n) (by omega)
  by_cases h : a.tmod n < 0
  · rw [if_pos h] at hk
    have hb : -9223372036854775808 ≤ a.tmod n + n ∧ a.tmod n + n ≤ 9223372036854775807 := by omega
    have hw : IntKind.i64.wrap (a.tmod n + n) = a.tmod n + n := IntWalk.i64_in _ (by omega)
    replace hk := hide hk
    replace hw := hide hw
    clear h2 h3
    go_enter Try.func11, Try.ntmps11
    go_wp2
    go_ret
    refine ⟨?_, rfl⟩
    simp only [Ending.returned.injEq]
    rw [← (unhide hk)]
    simp
  · rw [if_neg h] at hk
    replace hk := hide hk
    clear h2 h3
    go_enter Try.func11, Try.ntmps11
    go_wp2
    go_ret
    exact ⟨by rw [← (unhide hk)]; rfl, rfl⟩

set_option maxRecDepth 100000 in
theorem w4_any (a n : Int) (w : World) (ha0 : I64 a) (hn : 1 ≤ n) (hn2 : n ≤ 4611686018427387904) :
    Calls Try.prog 35 #[.int .i64 a, .int .i64 n] w fun e w' => e = .returned (.int .i64 (a % n)) ∧ w = w' := by
  have ha := ha0
  unfold I64 at ha
  have hk := tmod_neg_iff a n hn
  have h2 := Int.emod_nonneg a (b := n) (by omega)
  have h3 := Int.emod_lt_of_pos a (b := n) (by omega)
  by_cases h : a.tmod n < 0
  · rw [if_pos h] at hk
    have hb : -9223372036854775808 ≤ a.tmod n + n ∧ a.tmod n + n ≤ 9223372036854775807 := by omega
    have hw : IntKind.i64.wrap (a.tmod n + n) = a.tmod n + n := IntWalk.i64_in _ (by omega)
    replace hk := hide hk
    replace hw := hide hw
    clear h2 h3
    go_enter Try.func35, Try.ntmps35
    go_wp2
    go_ret
    refine ⟨?_, rfl⟩
    simp only [Ending.returned.injEq]
    rw [← (unhide hk)]
    simp
  · rw [if_neg h] at hk
    replace hk := hide hk
    clear h2 h3
    go_enter Try.func35, Try.ntmps35
    go_wp2
    go_ret
    exact ⟨by rw [← (unhide hk)]; rfl, rfl⟩

/-- an update that may be, of raw numbers -/
def goodE (e : Ent) : Ent := if e.k % 4 = 1 then ⟨1, e.l % 100, 1 + e.s % 1000, e.d⟩ else if e.k % 4 = 2 then ⟨2, e.l % 100, 1 + e.s % 1000, fun _ => 0⟩ else ⟨e.k % 4, 0, 0, fun _ => 0⟩
def bdE (ps : Array (Nat × Value)) : Sem Value := Instr.build 44 ps
theorem build_ent (ps : Array (Nat × Value)) : Instr.build 44 ps = bdE ps := rfl
set_option maxRecDepth 100000 in
theorem run_bdE4 (w : World) (k l s : Int) (e : Ent) : (bdE #[(0, .int .i64 k), (1, .int .i64 l), (2, .int .i64 s), (3, .agg e.data.toArray)]).run Try.prog w = .ok (.agg ({ k := k, l := l, s := s, d := e.d } : Ent).arr) w := by kernel_rfl
set_option maxRecDepth 100000 in
theorem run_bdE3 (w : World) (k l s : Int) : (bdE #[(0, .int .i64 k), (1, .int .i64 l), (2, .int .i64 s)]).run Try.prog w = .ok (.agg ({ k := k, l := l, s := s, d := fun _ => 0 } : Ent).arr) w := by kernel_rfl
set_option maxRecDepth 100000 in
theorem run_bdE1 (w : World) (k : Int) : (bdE #[(0, .int .i64 k)]).run Try.prog w = .ok (.agg ({ k := k, l := 0, s := 0, d := fun _ => 0 } : Ent).arr) w := by kernel_rfl
set_option maxRecDepth 100000 in
theorem run_bdE0 (w : World) : (bdE #[]).run Try.prog w = .ok (.agg ({ k := 0, l := 0, s := 0, d := fun _ => 0 } : Ent).arr) w := by kernel_rfl
attribute [local go_sem] Ent.arr0 Ent.arr1 Ent.arr2 Ent.set1 Ent.set2 Ent.arr_size Ent.okW Ent.lit run_ldV_ent run_stV_ent ldR_some stR_true rd_new_whole rd_alloc canW_new canW_alloc wr_new wr_alloc rd_drew rd_drewN canW_drew canW_drewN run_bsS_ent run_bsS_ent0 run_eqI_ent rd_setCell rd_setCell_same canW_setCell' Option.map_some cell_wr_other rd_wr_same rd_wr_other
attribute [local go_sem ↓] ldV_ent stV_ent bsS_ent eqI_ent
attribute [local go_sem] Ent.arr0g Ent.arr1g Ent.arr2g run_ldV_dat rd_dat run_eqI_dat dat_lit
attribute [local go_sem ↓] ldV_dat eqI_dat

attribute [local go_sem] run_bdE4 run_bdE3 run_bdE1 run_bdE0
attribute [local go_sem ↓] build_ent
set_option maxRecDepth 100000 in
set_option maxHeartbeats 4000000 in
theorem good_any (e : Ent) (w : World) (hk : I64 e.k) (hl : I64 e.l) (hs : I64 e.s) : Calls Try.prog 22 #[.agg e.arr] w fun x w' => x = .returned (.agg (goodE e).arr) ∧ Below w.heap.size w w' := by
  have hq : 0 ≤ 1 + e.s % 1000 ∧ 1 + e.s % 1000 ≤ 1000 := by omega
  have hqw : IntKind.i64.wrap (1 + e.s % 1000) = 1 + e.s % 1000 := IntWalk.i64_in _ (by omega)
  have hkb : 0 ≤ e.k % 4 ∧ e.k % 4 < 4 := by omega
  obtain ⟨q, hqe⟩ : ∃ q, 1 + e.s % 1000 = q := ⟨_, rfl⟩
  rw [hqe] at hqw
  have hwk := w10_any e.k 4
  obtain ⟨K, hK⟩ : ∃ K, e.k % 4 = K := ⟨_, rfl⟩
  rw [hK] at hwk hkb
  have hg1 : Hid (K = 1 → goodE e = { k := 1, l := e.l % 100, s := q, d := e.d }) := hide (fun h => by unfold goodE; rw [hK, if_pos h, hqe])
  have hg2 : Hid (K = 2 → goodE e = { k := 2, l := e.l % 100, s := q, d := fun _ => 0 }) := hide (fun h => by unfold goodE; rw [hK, if_neg (by omega), if_pos h, hqe])
  have hg3 : Hid (¬ K = 1 → ¬ K = 2 → goodE e = { k := K, l := 0, s := 0, d := fun _ => 0 }) := hide (fun h h2 => by unfold goodE; rw [hK, if_neg h, if_neg h2])
  replace hK := hide hK; replace hwk := hide hwk
  clear hq
  by_cases c1 : K = 1
  · subst c1
    go_enter Try.func22, Try.ntmps22
    go_wp2_with fail
    refine ((unhide hwk) _ hk (by omega) (by omega)).mono ?_
    rintro x w1 ⟨rfl, rfl⟩
    go_upto_region 5 with fail
    obtain ⟨W0, hW⟩ : ∃ W0, ((w.alloc (Obj.cells e.arr 44)).alloc (Obj.cells ({ k := 0, l := 0, s := 0, d := fun _ => 0 } : Ent).arr 44)) = W0 := ⟨_, rfl⟩
    have z0 : W0.heap.size = w.heap.size + 2 := by rw [← hW]; simp
    have b0 : Below w.heap.size w W0 := by rw [← hW]; exact ((Below.refl _ _).alloc (Nat.le_refl _) _).alloc (by simp) _
    have hS : (fun w' => w'.cell? ⟨w.heap.size, 1, none⟩ = some (.int .i64 e.l) ∧ w'.cell? ⟨w.heap.size, 2, none⟩ = some (.int .i64 e.s) ∧ rd w' w.heap.size 3 16 = some e.data.toArray) W0.drew := by
      refine ⟨?_, ?_, ?_⟩
      · rw [← hW]; clear hW z0 b0; go_simp
      · rw [← hW]; clear hW z0 b0; go_simp
      · rw [← hW, rd_drew, rd_alloc _ _ _ _ _ (by simp)]; exact rd_dat _ _ _ rfl
    have hc0 : canW W0 (w.heap.size + 1) 0 19 = true := by rw [← hW]; exact canW_new _ _ _ _ _ _ (by simp) (by simp [Ent.arr_size])
    replace z0 := hide z0
    rw [hW]
    clear hW
    refine start_ (n := 12) (S := fun w' => w'.cell? ⟨w.heap.size, 1, none⟩ = some (.int .i64 e.l) ∧ w'.cell? ⟨w.heap.size, 2, none⟩ = some (.int .i64 e.s) ∧ rd w' w.heap.size 3 16 = some e.data.toArray) (ds := [11]) #[false, false, false, false, false, false, false, false, false, false, false, false] (by kernel_rfl) rfl rfl (hS) (fun hHeld => ?_)
    refine pure_ (i := 0) (N := some 12) (v := ?_) (a' := ?_) #[true, false, false, false, false, false, false, false, false, false, false, false] rfl rfl (by kernel_rfl) (fun _ _ _ h => h) (Or.inl ⟨by rfl, ?_⟩) ?_ ?_
    rotate_left
    · intro w'
      go_simp
      with_reducible rfl
    rotate_left
    · simp only [Act.put, List.setIfInBounds_toArray, List.set_cons_zero, List.set_cons_succ, i64_w, i32_w]
      rfl
    refine pure_ (i := 1) (N := some 13) (v := ?_) (a' := ?_) #[true, true, false, false, false, false, false, false, false, false, false, false] rfl rfl (by kernel_rfl) (fun _ _ _ h => h) (Or.inl ⟨by rfl, ?_⟩) ?_ ?_
    rotate_left
    · intro w'
      go_simp
      with_reducible rfl
    rotate_left
    · simp only [Act.put, List.setIfInBounds_toArray, List.set_cons_zero, List.set_cons_succ, i64_w, i32_w]
      rfl
    refine take_ (i := 2) (N := some 14) (v := ?_) (a' := ?_) #[true, true, true, false, false, false, false, false, false, false, false, false] rfl rfl (by kernel_rfl) (fun _ _ _ h => h) (Or.inl ⟨by rfl, ?_⟩) hHeld ?_ ?_
    rotate_left
    · intro w' hs_; obtain ⟨s0, s1, s2⟩ := hs_
      go_simp
      with_reducible rfl
    rotate_left
    · simp only [Act.put, List.setIfInBounds_toArray, List.set_cons_zero, List.set_cons_succ, i64_w, i32_w]
      rfl
    refine pure_ (i := 4) (N := some 16) (v := ?_) (a' := ?_) #[true, true, true, false, true, false, false, false, false, false, false, false] rfl rfl (by kernel_rfl) (fun _ _ _ h => h) (Or.inl ⟨by rfl, ?_⟩) ?_ ?_
    rotate_left
    · intro w'
      go_simp
      with_reducible rfl
    rotate_left
    · simp only [Act.put, List.setIfInBounds_toArray, List.set_cons_zero, List.set_cons_succ, i64_w, i32_w]
      rfl
    refine take_ (i := 5) (N := some 17) (v := ?_) (a' := ?_) #[true, true, true, false, true, true, false, false, false, false, false, false] rfl rfl (by kernel_rfl) (fun _ _ _ h => h) (Or.inl ⟨by rfl, ?_⟩) hHeld ?_ ?_
    rotate_left
    · intro w' hs_; obtain ⟨s0, s1, s2⟩ := hs_
      go_simp
      with_reducible rfl
    rotate_left
    · simp only [Act.put, List.setIfInBounds_toArray, List.set_cons_zero, List.set_cons_succ, i64_w, i32_w]
      rfl
    refine pure_ (i := 8) (N := some 20) (v := ?_) (a' := ?_) #[true, true, true, false, true, true, false, false, true, false, false, false] rfl rfl (by kernel_rfl) (fun _ _ _ h => h) (Or.inl ⟨by rfl, ?_⟩) ?_ ?_
    rotate_left
    · intro w'
      go_simp
      with_reducible rfl
    rotate_left
    · simp only [Act.put, List.setIfInBounds_toArray, List.set_cons_zero, List.set_cons_succ, i64_w, i32_w]
      rfl
    refine take_ (i := 9) (N := some 21) (v := ?_) (a' := ?_) #[true, true, true, false, true, true, false, false, true, true, false, false] rfl rfl (by kernel_rfl) (fun _ _ _ h => h) (Or.inl ⟨by rfl, ?_⟩) hHeld ?_ ?_
    rotate_left
    · intro w' hs_; obtain ⟨s0, s1, s2⟩ := hs_
      go_simp
      with_reducible rfl
    rotate_left
    · simp only [Act.put, List.setIfInBounds_toArray, List.set_cons_zero, List.set_cons_succ, i64_w, i32_w]
      rfl
    refine one_ (i := 3) (N := some 15) #[true, true, true, true, true, true, false, false, true, true, false, false] rfl rfl (by kernel_rfl) (by decide) (fun K hK => ?_)
    refine goes_ Try.func44 (by kernel_rfl) rfl #[.int .i64 e.l, .int .i64 100] (by rfl) rfl rfl (by (try simp only [List.map_toArray, List.map_cons, List.map_nil]); first | done | rfl) ?_
    with_reducible refine (w10_any e.l 100 W0.drew hl (by omega) (by omega)).mono ?_
    rintro x w1 ⟨rfl, rfl⟩
    refine ⟨_, rfl, hK.out _ _ hS (fun hHeld => ?_)⟩
    clear hK K
    refine norm_ (a' := ?_) ?_ ?_
    rotate_left
    · show Act.put _ (some 15) _ = _
      simp only [Act.put, List.setIfInBounds_toArray, List.set_cons_zero, List.set_cons_succ, i64_w, i32_w]
      rfl
    refine one_ (i := 6) (N := some 18) #[true, true, true, true, true, true, true, false, true, true, false, false] rfl rfl (by kernel_rfl) (by decide) (fun K hK => ?_)
    refine goes_ Try.func44 (by kernel_rfl) rfl #[.int .i64 e.s, .int .i64 1000] (by rfl) rfl rfl (by (try simp only [List.map_toArray, List.map_cons, List.map_nil]); first | done | rfl) ?_
    with_reducible refine (w10_any e.s 1000 W0.drew hs (by omega) (by omega)).mono ?_
    rintro x w1 ⟨rfl, rfl⟩
    refine ⟨_, rfl, hK.out _ _ hS (fun hHeld => ?_)⟩
    clear hK K
    refine norm_ (a' := ?_) ?_ ?_
    rotate_left
    · show Act.put _ (some 18) _ = _
      simp only [Act.put, List.setIfInBounds_toArray, List.set_cons_zero, List.set_cons_succ, i64_w, i32_w]
      rfl
    refine pure_ (i := 7) (N := some 19) (v := ?_) (a' := ?_) #[true, true, true, true, true, true, true, true, true, true, false, false] rfl rfl (by kernel_rfl) (fun _ _ _ h => h) (Or.inl ⟨by rfl, ?_⟩) ?_ ?_
    rotate_left
    · intro w'
      go_simp
      with_reducible rfl
    rotate_left
    · simp only [Act.put, List.setIfInBounds_toArray, List.set_cons_zero, List.set_cons_succ, i64_w, i32_w]
      rfl
    refine pure_ (i := 10) (N := some 22) (v := ?_) (a' := ?_) #[true, true, true, true, true, true, true, true, true, true, true, false] rfl rfl (by kernel_rfl) (fun _ _ _ h => h) (Or.inl ⟨by rfl, ?_⟩) ?_ ?_
    rotate_left
    · intro w'
      go_simp
      with_reducible rfl
    rotate_left
    · simp only [Act.put, List.setIfInBounds_toArray, List.set_cons_zero, List.set_cons_succ, i64_w, i32_w]
      rfl
    refine last_ (i := 11) (N := none) #[true, true, true, true, true, true, true, true, true, true, true, true] rfl rfl (by kernel_rfl) (by decide) (fun K hK => ?_)
    refine skip_ (w1 := ?_) (by rfl) rfl ?_ ?_
    rotate_left
    · go_simp
      rfl
    refine hK.out _ _ ?_
    clear hK K
    refine done_ (by kernel_rfl) ?_
    go_wp2_with fail
    refine bodyPost_ret (results_c Try.results22 Try.underlying44 rfl info_ent (cs := ({ k := 1, l := e.l % 100, s := q, d := e.d } : Ent).arr) rfl (rd_wr_same _ _ _ _ _ (Ent.arr_size _).symm hc0)) rfl ⟨by rw [unhide hg1 (by trivial)], ?_⟩
    exact below_wr b0.drew (by omega) _ _
  by_cases c2 : K = 2
  · subst c2
    go_enter Try.func22, Try.ntmps22
    go_wp2_with fail
    refine ((unhide hwk) _ hk (by omega) (by omega)).mono ?_
    rintro x w1 ⟨rfl, rfl⟩
    go_upto_region 7 with fail
    obtain ⟨W0, hW⟩ : ∃ W0, ((w.alloc (Obj.cells e.arr 44)).alloc (Obj.cells ({ k := 0, l := 0, s := 0, d := fun _ => 0 } : Ent).arr 44)) = W0 := ⟨_, rfl⟩
    have z0 : W0.heap.size = w.heap.size + 2 := by rw [← hW]; simp
    have b0 : Below w.heap.size w W0 := by rw [← hW]; exact ((Below.refl _ _).alloc (Nat.le_refl _) _).alloc (by simp) _
    have hS : (fun w' => w'.cell? ⟨w.heap.size, 1, none⟩ = some (.int .i64 e.l) ∧ w'.cell? ⟨w.heap.size, 2, none⟩ = some (.int .i64 e.s) ∧ rd w' w.heap.size 3 16 = some e.data.toArray) W0.drew := by
      refine ⟨?_, ?_, ?_⟩
      · rw [← hW]; clear hW z0 b0; go_simp
      · rw [← hW]; clear hW z0 b0; go_simp
      · rw [← hW, rd_drew, rd_alloc _ _ _ _ _ (by simp)]; exact rd_dat _ _ _ rfl
    have hc0 : canW W0 (w.heap.size + 1) 0 19 = true := by rw [← hW]; exact canW_new _ _ _ _ _ _ (by simp) (by simp [Ent.arr_size])
    replace z0 := hide z0
    rw [hW]
    clear hW
    refine start_ (n := 10) (S := fun w' => w'.cell? ⟨w.heap.size, 1, none⟩ = some (.int .i64 e.l) ∧ w'.cell? ⟨w.heap.size, 2, none⟩ = some (.int .i64 e.s) ∧ rd w' w.heap.size 3 16 = some e.data.toArray) (ds := [9]) #[false, false, false, false, false, false, false, false, false, false] (by kernel_rfl) rfl rfl (hS) (fun hHeld => ?_)
    refine pure_ (i := 0) (N := some 25) (v := ?_) (a' := ?_) #[true, false, false, false, false, false, false, false, false, false] rfl rfl (by kernel_rfl) (fun _ _ _ h => h) (Or.inl ⟨by rfl, ?_⟩) ?_ ?_
    rotate_left
    · intro w'
      go_simp
      with_reducible rfl
    rotate_left
    · simp only [Act.put, List.setIfInBounds_toArray, List.set_cons_zero, List.set_cons_succ, i64_w, i32_w]
      rfl
    refine pure_ (i := 1) (N := some 26) (v := ?_) (a' := ?_) #[true, true, false, false, false, false, false, false, false, false] rfl rfl (by kernel_rfl) (fun _ _ _ h => h) (Or.inl ⟨by rfl, ?_⟩) ?_ ?_
    rotate_left
    · intro w'
      go_simp
      with_reducible rfl
    rotate_left
    · simp only [Act.put, List.setIfInBounds_toArray, List.set_cons_zero, List.set_cons_succ, i64_w, i32_w]
      rfl
    refine take_ (i := 2) (N := some 27) (v := ?_) (a' := ?_) #[true, true, true, false, false, false, false, false, false, false] rfl rfl (by kernel_rfl) (fun _ _ _ h => h) (Or.inl ⟨by rfl, ?_⟩) hHeld ?_ ?_
    rotate_left
    · intro w' hs_; obtain ⟨s0, s1, s2⟩ := hs_
      go_simp
      with_reducible rfl
    rotate_left
    · simp only [Act.put, List.setIfInBounds_toArray, List.set_cons_zero, List.set_cons_succ, i64_w, i32_w]
      rfl
    refine pure_ (i := 4) (N := some 29) (v := ?_) (a' := ?_) #[true, true, true, false, true, false, false, false, false, false] rfl rfl (by kernel_rfl) (fun _ _ _ h => h) (Or.inl ⟨by rfl, ?_⟩) ?_ ?_
    rotate_left
    · intro w'
      go_simp
      with_reducible rfl
    rotate_left
    · simp only [Act.put, List.setIfInBounds_toArray, List.set_cons_zero, List.set_cons_succ, i64_w, i32_w]
      rfl
    refine take_ (i := 5) (N := some 30) (v := ?_) (a' := ?_) #[true, true, true, false, true, true, false, false, false, false] rfl rfl (by kernel_rfl) (fun _ _ _ h => h) (Or.inl ⟨by rfl, ?_⟩) hHeld ?_ ?_
    rotate_left
    · intro w' hs_; obtain ⟨s0, s1, s2⟩ := hs_
      go_simp
      with_reducible rfl
    rotate_left
    · simp only [Act.put, List.setIfInBounds_toArray, List.set_cons_zero, List.set_cons_succ, i64_w, i32_w]
      rfl
    refine one_ (i := 3) (N := some 28) #[true, true, true, true, true, true, false, false, false, false] rfl rfl (by kernel_rfl) (by decide) (fun K hK => ?_)
    refine goes_ Try.func44 (by kernel_rfl) rfl #[.int .i64 e.l, .int .i64 100] (by rfl) rfl rfl (by (try simp only [List.map_toArray, List.map_cons, List.map_nil]); first | done | rfl) ?_
    with_reducible refine (w10_any e.l 100 W0.drew hl (by omega) (by omega)).mono ?_
    rintro x w1 ⟨rfl, rfl⟩
    refine ⟨_, rfl, hK.out _ _ hS (fun hHeld => ?_)⟩
    clear hK K
    refine norm_ (a' := ?_) ?_ ?_
    rotate_left
    · show Act.put _ (some 28) _ = _
      simp only [Act.put, List.setIfInBounds_toArray, List.set_cons_zero, List.set_cons_succ, i64_w, i32_w]
      rfl
    refine one_ (i := 6) (N := some 31) #[true, true, true, true, true, true, true, false, false, false] rfl rfl (by kernel_rfl) (by decide) (fun K hK => ?_)
    refine goes_ Try.func44 (by kernel_rfl) rfl #[.int .i64 e.s, .int .i64 1000] (by rfl) rfl rfl (by (try simp only [List.map_toArray, List.map_cons, List.map_nil]); first | done | rfl) ?_
    with_reducible refine (w10_any e.s 1000 W0.drew hs (by omega) (by omega)).mono ?_
    rintro x w1 ⟨rfl, rfl⟩
    refine ⟨_, rfl, hK.out _ _ hS (fun hHeld => ?_)⟩
    clear hK K
    refine norm_ (a' := ?_) ?_ ?_
    rotate_left
    · show Act.put _ (some 31) _ = _
      simp only [Act.put, List.setIfInBounds_toArray, List.set_cons_zero, List.set_cons_succ, i64_w, i32_w]
      rfl
    refine pure_ (i := 7) (N := some 32) (v := ?_) (a' := ?_) #[true, true, true, true, true, true, true, true, false, false] rfl rfl (by kernel_rfl) (fun _ _ _ h => h) (Or.inl ⟨by rfl, ?_⟩) ?_ ?_
    rotate_left
    · intro w'
      go_simp
      with_reducible rfl
    rotate_left
    · simp only [Act.put, List.setIfInBounds_toArray, List.set_cons_zero, List.set_cons_succ, i64_w, i32_w]
      rfl
    refine pure_ (i := 8) (N := some 33) (v := ?_) (a' := ?_) #[true, true, true, true, true, true, true, true, true, false] rfl rfl (by kernel_rfl) (fun _ _ _ h => h) (Or.inl ⟨by rfl, ?_⟩) ?_ ?_
    rotate_left
    · intro w'
      go_simp
      with_reducible rfl
    rotate_left
    · simp only [Act.put, List.setIfInBounds_toArray, List.set_cons_zero, List.set_cons_succ, i64_w, i32_w]
      rfl
    refine last_ (i := 9) (N := none) #[true, true, true, true, true, true, true, true, true, true] rfl rfl (by kernel_rfl) (by decide) (fun K hK => ?_)
    refine skip_ (w1 := ?_) (by rfl) rfl ?_ ?_
    rotate_left
    · go_simp
      rfl
    refine hK.out _ _ ?_
    clear hK K
    refine done_ (by kernel_rfl) ?_
    go_wp2_with fail
    refine bodyPost_ret (results_c Try.results22 Try.underlying44 rfl info_ent (cs := ({ k := 2, l := e.l % 100, s := q, d := fun _ => 0 } : Ent).arr) rfl (rd_wr_same _ _ _ _ _ (Ent.arr_size _).symm hc0)) rfl ⟨by rw [unhide hg2 (by trivial)], ?_⟩
    exact below_wr b0.drew (by omega) _ _
  · go_enter Try.func22, Try.ntmps22
    go_wp2_with fail
    refine ((unhide hwk) _ hk (by omega) (by omega)).mono ?_
    rintro x w1 ⟨rfl, rfl⟩
    go_wp2_with fail
    refine bodyPost_ret (results_c Try.results22 Try.underlying44 rfl info_ent (cs := ({ k := K, l := 0, s := 0, d := fun _ => 0 } : Ent).arr) rfl (rd_new_whole _ _ _ _ _ _ (by simp) (Ent.arr_size _).symm)) rfl ⟨by rw [(unhide hg3) c1 c2], ?_⟩
    exact ((Below.refl _ _).alloc (Nat.le_refl _) _).alloc (by simp) _
/-- whole numbers of a slot lie in their kind's range -/
def Ent.Wf (e : Ent) : Prop := I64 e.k ∧ I64 e.l ∧ I64 e.s ∧ ∀ i, 0 ≤ e.d i ∧ e.d i < 256
set_option maxRecDepth 100000 in
set_option maxHeartbeats 4000000 in
theorem slots_any (A : Option Addr) (c m : Nat) (es : List Ent) (w : World) (hm : m ≤ 1000000) (hn : es.length ≤ c) (hc : c ≤ maxLen) (hwf : ∀ e ∈ es, e.Wf) (hs : Sl w 0 w.heap.size 19 A (es.map Ent.arr)) :
    Calls Try.prog 13 #[.slice A es.length c, .int .i64 m] w fun x w' =>
      (∃ A' c', x = .returned (.slice A' (min es.length m) c') ∧ min es.length m ≤ c' ∧ Ow w' w.heap.size 44 19 (.slice A' (min es.length m) c') (((es.take m).map goodE).map Ent.arr)) ∧ Below w.heap.size w w' := by
  unfold maxLen at hc
  go_enter Try.func13, Try.ntmps13
  go_wp2_with fail
  go_loopw [5, 6] (fun s5 s6 wr => ∃ (j : Nat) (A2 : Option Addr) (c2 : Nat), j ≤ m ∧ j ≤ es.length ∧ s6 = .int .i64 j ∧ s5 = .slice A2 j c2 ∧ j ≤ c2 ∧ Ow wr w.heap.size 44 19 (.slice A2 j c2) (((es.take j).map goodE).map Ent.arr) ∧ Below w.heap.size w wr) (fun _ s6 _ => es.length - (intOf s6).toNat)
  case atStart => exact ⟨0, none, 0, by omega, by omega, rfl, rfl, by omega, by simpa using Ow.nil w w.heap.size 44 19, Below.refl _ _⟩
  case round =>
    obtain ⟨j, A2, c2, hjm, hjl, rfl, rfl, hc2, ho, hb⟩ := hrel
    have hz := hb.size
    by_cases hlt : j < es.length ∧ j < m
    · obtain ⟨h1, h2⟩ := hlt
      have h1I : (j : Int) < es.length := by omega
      have h2I : (j : Int) < m := by omega
      have h0I : (0 : Int) ≤ j := by omega
      obtain ⟨b, o, rfl, _, hbl, hr⟩ := hs.at_ (k := j) (by simpa using h1)
      simp only [List.getElem_map] at hr
      have hr2 := (rd_below hb hbl _ _).trans hr
      obtain ⟨e, he⟩ : ∃ e, e = es[j] := ⟨_, rfl⟩
      have hew : e.Wf := by rw [he]; exact hwf _ (List.getElem_mem h1)
      have htk : es.take (j + 1) = es.take j ++ [e] := by rw [he, List.take_succ_eq_append_getElem h1]
      rw [← he] at hr2
      clear he hr
      replace htk := hide htk
      have hcon := good_any e wr hew.1 hew.2.1 hew.2.2.1
      clear hew
      go_wp2_with fail
      (with_reducible refine hcon.mono ?_)
      rintro x w3 ⟨rfl, hb3⟩
      have hbb : Below w.heap.size w w3 := hb.trans (hb3.mono hz)
      have ho3 : Ow w3 w.heap.size 44 19 (.slice A2 j c2) (((es.take j).map goodE).map Ent.arr) := ho.below hb3 (fun g hg => (ho.lt g hg).2)
      have hz3 := hbb.size
      obtain ⟨A3, c3, w4, hrun, ho4, hg4, hc4⟩ := run_append_ents (w3.alloc (.cells (goodE e).arr 44)) w.heap.size j (.slice A2 j c2) ((es.take j).map goodE) [goodE e] (ho3.alloc _) (by rw [List.length_map, List.length_take]; omega) 0 (w3.heap.size + 1) (some ⟨w3.heap.size, 0, none⟩) 1 1 (Sl.one (rd_new_whole _ _ _ _ _ _ rfl (Ent.arr_size _).symm) (Nat.zero_le _) (Nat.lt_succ_self _)) rfl (by omega) (by simp; omega) 22
      have hb4 : Below w.heap.size w w4 := below_grown (hbb.alloc hz3 _) hg4 (by simp; omega) (fun k ek => ((ho3.alloc (.cells (goodE e).arr 44)).lt k ek).1)
      have hlist : (es.take j).map goodE ++ [goodE e] = (es.take (j + 1)).map goodE := by rw [unhide htk, List.map_append]; rfl
      rw [hlist] at ho4
      clear hlist ho ho3 hb3 hcon hbb hr2
      replace ho4 := hide ho4
      go_wp2_with (at_builtin; refine wpList_step (fun K hK => step_append_ex (o := ⟨some 25, _, _, _, _, _⟩) (.tmp 18) (.tmp 24) 22 rfl (by rfl) ⟨_, _, hrun, hK _ _ ?_⟩))
      go_roundw
      case rel => exact ⟨j + 1, A3, c3, by omega, by omega, by go_num, rfl, hc4, unhide ho4, hb4⟩
      case measure => simp [intOf]; omega
    · have hj : j = min es.length m := by omega
      have htk : es.take m = es.take j := by
        rcases Nat.le_total es.length m with h | h
        · rw [List.take_of_length_le h, List.take_of_length_le (by omega)]
        · rw [show j = m from by omega]
      have hj' := hide hj.symm
      replace htk := hide htk
      by_cases h1 : j < es.length
      · have h2 : ¬ (j : Int) < m := by omega
        have h1I : (j : Int) < es.length := by omega
        replace hj := hide hj
        go_wp2_with fail
        go_ret
        exact ⟨⟨A2, c2, by rw [unhide hj']; first | done | rfl, by rw [unhide hj']; exact hc2, by rw [unhide hj']; have h9 := ho; rw [← unhide htk] at h9; simpa using h9⟩, hb⟩
      · have h1I : ¬ (j : Int) < es.length := by omega
        replace hj := hide hj
        go_wp2_with fail
        go_ret
        exact ⟨⟨A2, c2, by rw [unhide hj']; first | done | rfl, by rw [unhide hj']; exact hc2, by rw [unhide hj']; have h9 := ho; rw [← unhide htk] at h9; simpa using h9⟩, hb⟩
end Go.Proofs.Ytibileffpgnjhaa.Base
