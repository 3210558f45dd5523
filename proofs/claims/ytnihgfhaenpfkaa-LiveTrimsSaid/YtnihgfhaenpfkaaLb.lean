/-
  Slots that may be (ramekinlaw10.Good), numbers within; words for memory that a call owns.
-/
import Derived.Test.YtnihgfhaenpfkaaEnt
import Derived.Test.YtnihgfhaenpfkaaWLast
import Derived.Test.YtnihgfhaenpfkaaWWords
import Derived.Deep.RegionHeld3
import Derived.BigQuiet
import Derived.BigGuardPart
namespace Go.Proofs.Ytnihgfhaenpfkaa.Base
open Go.RowKit Go.Proofs.YtnihgfhaenpfkaaW.PrintWords Go.Proofs.YtnihgfhaenpfkaaW.PrintLast
set_option linter.unusedSimpArgs false
set_option linter.unusedVariables false
def I64 (n : Int) : Prop := -9223372036854775808 ≤ n ∧ n ≤ 9223372036854775807
/-- what is run, in just this world -/
theorem app_ex {P : Program} {X X' : Sem Value} {W w1 : World} {v : Value} {K : Value → World → Prop} (hrun : X'.run P W = .ok v w1) (hX : X = X') (h : K v w1) : ∃ v w', X.run P W = .ok v w' ∧ K v w' :=
  ⟨v, w1, hX ▸ hrun, h⟩
theorem Ow.set_other {w : World} {base : Nat} {e t : TypeId} {sz : Nat} {v : Value} {xs : List (Array Value)} {cs : Array Value} (h : Ow w base e sz v xs) {p : Addr} (hp : w.heap[p.block]? = some (.cells cs t (0, 0))) (ht : t ≠ e) (u : Value) : Ow (w.setCell p u) base e sz v xs := by
  refine ⟨h.1, ?_⟩
  rcases h.2 with h0 | ⟨g, cap, cur, rfl, h1, h2, h3⟩
  · exact .inl h0
  · refine .inr ⟨g, cap, cur, rfl, h1, (Below.heap_setCell w p u g ?_).trans h2, h3⟩
    intro e2
    subst e2
    have := hp.symm.trans h2
    injection this with this
    injection this with _ h4 _
    exact ht h4
theorem Ow.less {w : World} {base base' : Nat} {e : TypeId} {sz : Nat} {v : Value} {xs : List (Array Value)} (h : Ow w base e sz v xs) (hb : base' ≤ base) : Ow w base' e sz v xs := by
  refine ⟨h.1, ?_⟩
  rcases h.2 with h0 | ⟨g, cap, cur, rfl, h1, h2, h3⟩
  · exact .inl h0
  · exact .inr ⟨g, cap, cur, rfl, by omega, h2, h3⟩
attribute [local go_sem] Ent.arr0 Ent.arr1 Ent.arr2 Ent.set1 Ent.set2 Ent.arr_size Ent.okW Ent.lit run_ldV_ent run_stV_ent ldR_some stR_true rd_new_whole rd_alloc canW_new canW_alloc wr_new wr_alloc rd_drew rd_drewN canW_drew canW_drewN run_bsS_ent run_bsS_ent0 run_eqI_ent rd_setCell rd_setCell_same canW_setCell' Option.map_some cell_wr_other rd_wr_same rd_wr_other
attribute [local go_sem ↓] ldV_ent stV_ent bsS_ent eqI_ent
theorem ldV_dat (a : Addr) : loadVar 35 a = ldV 35 a := rfl
set_option maxRecDepth 100000 in
theorem info_dat : (Try.prog.info? 35).map (·.size) = some 16 := by kernel_rfl
theorem run_ldV_dat (w : World) (b o : Nat) : (ldV 35 ⟨b, o, none⟩).run Try.prog w = ldR Try.prog 35 ⟨b, o, none⟩ (rd w b o 16) w :=
  run_ldV Try.prog 35 16 _ Try.underlying35 rfl info_dat w b o
theorem Ent.ext3 (e : Ent) : e.arr.extract 3 19 = e.data.toArray := rfl
/-- the data of the box of a slot -/
theorem rd_dat (w : World) (e : Ent) (b : Nat) (h : b = w.heap.size) : rd (w.alloc (.cells e.arr 37)) b 3 16 = some e.data.toArray := by
  rw [rd_new _ _ _ _ _ _ _ h (by rw [Ent.arr_size]; omega), Ent.ext3]
theorem eqI_dat (x y : Value) : Op.equalIn 10000 35 x y = eqI 35 x y := rfl
def zd : Fin 16 → Int := fun _ => 0
theorem run_eqI_dat (e f : Ent) (w : World) : (eqI 35 (.agg e.data.toArray) (.agg f.data.toArray)).run Try.prog w = .ok (decide (∀ i, e.d i = f.d i)) w := run_equalIn_data 9998 e f w
theorem dat_lit : (#[.int .u8 0, .int .u8 0, .int .u8 0, .int .u8 0, .int .u8 0, .int .u8 0, .int .u8 0, .int .u8 0, .int .u8 0, .int .u8 0, .int .u8 0, .int .u8 0, .int .u8 0, .int .u8 0, .int .u8 0, .int .u8 0] : Array Value) = Ent.zero.data.toArray := rfl
theorem Ent.arr0g (e : Ent) (h : 0 < e.arr.size) : e.arr[0] = .int .i64 e.k := rfl
theorem Ent.arr1g (e : Ent) (h : 1 < e.arr.size) : e.arr[1] = .int .i64 e.l := rfl
theorem Ent.arr2g (e : Ent) (h : 2 < e.arr.size) : e.arr[2] = .int .i64 e.s := rfl
attribute [local go_sem] Ent.arr0g Ent.arr1g Ent.arr2g run_ldV_dat rd_dat run_eqI_dat dat_lit
attribute [local go_sem ↓] ldV_dat eqI_dat

theorem tmod_neg_iff (a n : Int) (hn : 1 ≤ n) : (if a.tmod n < 0 then a.tmod n + n else a.tmod n) = a % n := by
  have h1 := Int.tmod_eq_emod (a := a) (b := n)
  have h2 := Int.emod_nonneg a (b := n) (by omega)
  have h3 := Int.emod_lt_of_pos a (b := n) (by omega)
  have h4 : (n.natAbs : Int) = n := by omega
  split at h1 <;> split <;> omega

set_option maxRecDepth 100000 in
theorem w10_any (a n : Int) (w : World) (ha0 : I64 a) (hn : 1 ≤ n) (hn2 : n ≤ 4611686018427387904) :
    Calls Try.prog 18 #[.int .i64 a, .int .i64 n] w fun e w' => e = .returned (.int .i64 (a % n)) ∧ w = w' := by
  have ha := ha0
  unfold I64 at ha
  have hk := tmod_neg_iff a n hn
  have h2 := Int.emod_nonneg a (b := n) (by omega)
  have h3 := Int.emod_lt_of_pos a (b := n) (by omega)
  by_cases h : a.tmod n < 0
  · rw [if_pos h] at hk
    have hb : -9223372036854775808 ≤ a.tmod n + n ∧ a.tmod n + n ≤ 9223372036854775807 := by omega
    have hw : IntKind.i64.wrap (a.tmod n + n) = a.tmod n + n := IntWalk.i64_in _ (by omega)
    replace hk := hide hk
    replace hw := hide hw
    clear h2 h3
    go_enter Try.func18, Try.ntmps18
    go_wp2
    go_ret
    refine ⟨?_, rfl⟩
    simp only [Ending.returned.injEq]
    rw [← (unhide hk)]
    simp
  · rw [if_neg h] at hk
    replace hk := hide hk
    clear h2 h3
    go_enter Try.func18, Try.ntmps18
    go_wp2
    go_ret
    exact ⟨by rw [← (unhide hk)]; rfl, rfl⟩

/-- an update that may be, of raw numbers -/
def goodE (e : Ent) : Ent := if e.k % 4 = 1 then ⟨1, e.l % 100, 1 + e.s % 1000, e.d⟩ else if e.k % 4 = 2 then ⟨2, e.l % 100, 1 + e.s % 1000, fun _ => 0⟩ else ⟨e.k % 4, 0, 0, fun _ => 0⟩
def bdE (ps : Array (Nat × Value)) : Sem Value := Instr.build 37 ps
theorem build_ent (ps : Array (Nat × Value)) : Instr.build 37 ps = bdE ps := rfl
set_option maxRecDepth 100000 in
theorem run_bdE4 (w : World) (k l s : Int) (e : Ent) : (bdE #[(0, .int .i64 k), (1, .int .i64 l), (2, .int .i64 s), (3, .agg e.data.toArray)]).run Try.prog w = .ok (.agg ({ k := k, l := l, s := s, d := e.d } : Ent).arr) w := by kernel_rfl
set_option maxRecDepth 100000 in
theorem run_bdE3 (w : World) (k l s : Int) : (bdE #[(0, .int .i64 k), (1, .int .i64 l), (2, .int .i64 s)]).run Try.prog w = .ok (.agg ({ k := k, l := l, s := s, d := fun _ => 0 } : Ent).arr) w := by kernel_rfl
set_option maxRecDepth 100000 in
theorem run_bdE1 (w : World) (k : Int) : (bdE #[(0, .int .i64 k)]).run Try.prog w = .ok (.agg ({ k := k, l := 0, s := 0, d := fun _ => 0 } : Ent).arr) w := by kernel_rfl
set_option maxRecDepth 100000 in
theorem run_bdE0 (w : World) : (bdE #[]).run Try.prog w = .ok (.agg ({ k := 0, l := 0, s := 0, d := fun _ => 0 } : Ent).arr) w := by kernel_rfl
attribute [local go_sem] run_bdE4 run_bdE3 run_bdE1 run_bdE0
attribute [local go_sem ↓] build_ent
set_option maxRecDepth 100000 in
set_option maxHeartbeats 4000000 in
theorem good_any (e : Ent) (w : World) (hk : I64 e.k) (hl : I64 e.l) (hs : I64 e.s) : Calls Try.prog 14 #[.agg e.arr] w fun x w' => x = .returned (.agg (goodE e).arr) ∧ Below w.heap.size w w' := by
  have hq : 0 ≤ 1 + e.s % 1000 ∧ 1 + e.s % 1000 ≤ 1000 := by omega
  have hqw : IntKind.i64.wrap (1 + e.s % 1000) = 1 + e.s % 1000 := IntWalk.i64_in _ (by omega)
  have hkb : 0 ≤ e.k % 4 ∧ e.k % 4 < 4 := by omega
  obtain ⟨q, hqe⟩ : ∃ q, 1 + e.s % 1000 = q := ⟨_, rfl⟩
  rw [hqe] at hqw
  have hwk := w10_any e.k 4
  obtain ⟨K, hK⟩ : ∃ K, e.k % 4 = K := ⟨_, rfl⟩
  rw [hK] at hwk hkb
  have hg1 : Hid (K = 1 → goodE e = { k := 1, l := e.l % 100, s := q, d := e.d }) := hide (fun h => by unfold goodE; rw [hK, if_pos h, hqe])
  have hg2 : Hid (K = 2 → goodE e = { k := 2, l := e.l % 100, s := q, d := fun _ => 0 }) := hide (fun h => by unfold goodE; rw [hK, if_neg (by omega), if_pos h, hqe])
  have hg3 : Hid (¬ K = 1 → ¬ K = 2 → goodE e = { k := K, l := 0, s := 0, d := fun _ => 0 }) := hide (fun h h2 => by unfold goodE; rw [hK, if_neg h, if_neg h2])
  replace hK := hide hK; replace hwk := hide hwk
  clear hq
  by_cases c1 : K = 1
  · subst c1
    go_enter Try.func14, Try.ntmps14
    go_wp2_with fail
    refine ((unhide hwk) _ hk (by omega) (by omega)).mono ?_
    rintro x w1 ⟨rfl, rfl⟩
    go_upto_region 5 with fail
    obtain ⟨W0, hW⟩ : ∃ W0, ((w.alloc (Obj.cells e.arr 37)).alloc (Obj.cells ({ k := 0, l := 0, s := 0, d := fun _ => 0 } : Ent).arr 37)) = W0 := ⟨_, rfl⟩
    have z0 : W0.heap.size = w.heap.size + 2 := by rw [← hW]; simp
    have b0 : Below w.heap.size w W0 := by rw [← hW]; exact ((Below.refl _ _).alloc (Nat.le_refl _) _).alloc (by simp) _
    have hS : (fun w' => w'.cell? ⟨w.heap.size, 1, none⟩ = some (.int .i64 e.l) ∧ w'.cell? ⟨w.heap.size, 2, none⟩ = some (.int .i64 e.s) ∧ rd w' w.heap.size 3 16 = some e.data.toArray) W0.drew := by
      refine ⟨?_, ?_, ?_⟩
      · rw [← hW]; clear hW z0 b0; go_simp
      · rw [← hW]; clear hW z0 b0; go_simp
      · rw [← hW, rd_drew, rd_alloc _ _ _ _ _ (by simp)]; exact rd_dat _ _ _ rfl
    have hc0 : canW W0 (w.heap.size + 1) 0 19 = true := by rw [← hW]; exact canW_new _ _ _ _ _ _ (by simp) (by simp [Ent.arr_size])
    replace z0 := hide z0
    rw [hW]
    clear hW
    refine start_ (n := 12) (S := fun w' => w'.cell? ⟨w.heap.size, 1, none⟩ = some (.int .i64 e.l) ∧ w'.cell? ⟨w.heap.size, 2, none⟩ = some (.int .i64 e.s) ∧ rd w' w.heap.size 3 16 = some e.data.toArray) (ds := [11]) #[false, false, false, false, false, false, false, false, false, false, false, false] (by kernel_rfl) rfl rfl (hS) (fun hHeld => ?_)
    refine pure_ (i := 0) (N := some 12) (v := ?_) (a' := ?_) #[true, false, false, false, false, false, false, false, false, false, false, false] rfl rfl (by kernel_rfl) (fun _ _ _ h => h) (Or.inl ⟨by rfl, ?_⟩) ?_ ?_
    rotate_left
    · intro w'
      go_simp
      with_reducible rfl
    rotate_left
    · simp only [Act.put, List.setIfInBounds_toArray, List.set_cons_zero, List.set_cons_succ, i64_w, i32_w]
      rfl
    refine pure_ (i := 1) (N := some 13) (v := ?_) (a' := ?_) #[true, true, false, false, false, false, false, false, false, false, false, false] rfl rfl (by kernel_rfl) (fun _ _ _ h => h) (Or.inl ⟨by rfl, ?_⟩) ?_ ?_
    rotate_left
    · intro w'
      go_simp
      with_reducible rfl
    rotate_left
    · simp only [Act.put, List.setIfInBounds_toArray, List.set_cons_zero, List.set_cons_succ, i64_w, i32_w]
      rfl
    refine take_ (i := 2) (N := some 14) (v := ?_) (a' := ?_) #[true, true, true, false, false, false, false, false, false, false, false, false] rfl rfl (by kernel_rfl) (fun _ _ _ h => h) (Or.inl ⟨by rfl, ?_⟩) hHeld ?_ ?_
    rotate_left
    · intro w' hs_; obtain ⟨s0, s1, s2⟩ := hs_
      go_simp
      with_reducible rfl
    rotate_left
    · simp only [Act.put, List.setIfInBounds_toArray, List.set_cons_zero, List.set_cons_succ, i64_w, i32_w]
      rfl
    refine pure_ (i := 4) (N := some 16) (v := ?_) (a' := ?_) #[true, true, true, false, true, false, false, false, false, false, false, false] rfl rfl (by kernel_rfl) (fun _ _ _ h => h) (Or.inl ⟨by rfl, ?_⟩) ?_ ?_
    rotate_left
    · intro w'
      go_simp
      with_reducible rfl
    rotate_left
    · simp only [Act.put, List.setIfInBounds_toArray, List.set_cons_zero, List.set_cons_succ, i64_w, i32_w]
      rfl
    refine take_ (i := 5) (N := some 17) (v := ?_) (a' := ?_) #[true, true, true, false, true, true, false, false, false, false, false, false] rfl rfl (by kernel_rfl) (fun _ _ _ h => h) (Or.inl ⟨by rfl, ?_⟩) hHeld ?_ ?_
    rotate_left
    · intro w' hs_; obtain ⟨s0, s1, s2⟩ := hs_
      go_simp
      with_reducible rfl
    rotate_left
    · simp only [Act.put, List.setIfInBounds_toArray, List.set_cons_zero, List.set_cons_succ, i64_w, i32_w]
      rfl
    refine pure_ (i := 8) (N := some 20) (v := ?_) (a' := ?_) #[true, true, true, false, true, true, false, false, true, false, false, false] rfl rfl (by kernel_rfl) (fun _ _ _ h => h) (Or.inl ⟨by rfl, ?_⟩) ?_ ?_
    rotate_left
    · intro w'
      go_simp
      with_reducible rfl
    rotate_left
    · simp only [Act.put, List.setIfInBounds_toArray, List.set_cons_zero, List.set_cons_succ, i64_w, i32_w]
      rfl
    refine take_ (i := 9) (N := some 21) (v := ?_) (a' := ?_) #[true, true, true, false, true, true, false, false, true, true, false, false] rfl rfl (by kernel_rfl) (fun _ _ _ h => h) (Or.inl ⟨by rfl, ?_⟩) hHeld ?_ ?_
    rotate_left
    · intro w' hs_; obtain ⟨s0, s1, s2⟩ := hs_
      go_simp
      with_reducible rfl
    rotate_left
    · simp only [Act.put, List.setIfInBounds_toArray, List.set_cons_zero, List.set_cons_succ, i64_w, i32_w]
      rfl
    refine one_ (i := 3) (N := some 15) #[true, true, true, true, true, true, false, false, true, true, false, false] rfl rfl (by kernel_rfl) (by decide) (fun K hK => ?_)
    refine goes_ Try.func18 (by kernel_rfl) rfl #[.int .i64 e.l, .int .i64 100] (by rfl) rfl rfl (by (try simp only [List.map_toArray, List.map_cons, List.map_nil]); first | done | rfl) ?_
    with_reducible refine (w10_any e.l 100 W0.drew hl (by omega) (by omega)).mono ?_
    rintro x w1 ⟨rfl, rfl⟩
    refine ⟨_, rfl, hK.out _ _ hS (fun hHeld => ?_)⟩
    clear hK K
    refine norm_ (a' := ?_) ?_ ?_
    rotate_left
    · show Act.put _ (some 15) _ = _
      simp only [Act.put, List.setIfInBounds_toArray, List.set_cons_zero, List.set_cons_succ, i64_w, i32_w]
      rfl
    refine one_ (i := 6) (N := some 18) #[true, true, true, true, true, true, true, false, true, true, false, false] rfl rfl (by kernel_rfl) (by decide) (fun K hK => ?_)
    refine goes_ Try.func18 (by kernel_rfl) rfl #[.int .i64 e.s, .int .i64 1000] (by rfl) rfl rfl (by (try simp only [List.map_toArray, List.map_cons, List.map_nil]); first | done | rfl) ?_
    with_reducible refine (w10_any e.s 1000 W0.drew hs (by omega) (by omega)).mono ?_
    rintro x w1 ⟨rfl, rfl⟩
    refine ⟨_, rfl, hK.out _ _ hS (fun hHeld => ?_)⟩
    clear hK K
    refine norm_ (a' := ?_) ?_ ?_
    rotate_left
    · show Act.put _ (some 18) _ = _
      simp only [Act.put, List.setIfInBounds_toArray, List.set_cons_zero, List.set_cons_succ, i64_w, i32_w]
      rfl
    refine pure_ (i := 7) (N := some 19) (v := ?_) (a' := ?_) #[true, true, true, true, true, true, true, true, true, true, false, false] rfl rfl (by kernel_rfl) (fun _ _ _ h => h) (Or.inl ⟨by rfl, ?_⟩) ?_ ?_
    rotate_left
    · intro w'
      go_simp
      with_reducible rfl
    rotate_left
    · simp only [Act.put, List.setIfInBounds_toArray, List.set_cons_zero, List.set_cons_succ, i64_w, i32_w]
      rfl
    refine pure_ (i := 10) (N := some 22) (v := ?_) (a' := ?_) #[true, true, true, true, true, true, true, true, true, true, true, false] rfl rfl (by kernel_rfl) (fun _ _ _ h => h) (Or.inl ⟨by rfl, ?_⟩) ?_ ?_
    rotate_left
    · intro w'
      go_simp
      with_reducible rfl
    rotate_left
    · simp only [Act.put, List.setIfInBounds_toArray, List.set_cons_zero, List.set_cons_succ, i64_w, i32_w]
      rfl
    refine last_ (i := 11) (N := none) #[true, true, true, true, true, true, true, true, true, true, true, true] rfl rfl (by kernel_rfl) (by decide) (fun K hK => ?_)
    refine skip_ (w1 := ?_) (by rfl) rfl ?_ ?_
    rotate_left
    · go_simp
      rfl
    refine hK.out _ _ ?_
    clear hK K
    refine done_ (by kernel_rfl) ?_
    go_wp2_with fail
    refine bodyPost_ret (results_c Try.results14 Try.underlying37 rfl info_ent (cs := ({ k := 1, l := e.l % 100, s := q, d := e.d } : Ent).arr) rfl (rd_wr_same _ _ _ _ _ (Ent.arr_size _).symm hc0)) rfl ⟨by rw [unhide hg1 (by trivial)], ?_⟩
    exact below_wr b0.drew (by omega) _ _
  by_cases c2 : K = 2
  · subst c2
    go_enter Try.func14, Try.ntmps14
    go_wp2_with fail
    refine ((unhide hwk) _ hk (by omega) (by omega)).mono ?_
    rintro x w1 ⟨rfl, rfl⟩
    go_upto_region 7 with fail
    obtain ⟨W0, hW⟩ : ∃ W0, ((w.alloc (Obj.cells e.arr 37)).alloc (Obj.cells ({ k := 0, l := 0, s := 0, d := fun _ => 0 } : Ent).arr 37)) = W0 := ⟨_, rfl⟩
    have z0 : W0.heap.size = w.heap.size + 2 := by rw [← hW]; simp
    have b0 : Below w.heap.size w W0 := by rw [← hW]; exact ((Below.refl _ _).alloc (Nat.le_refl _) _).alloc (by simp) _
    have hS : (fun w' => w'.cell? ⟨w.heap.size, 1, none⟩ = some (.int .i64 e.l) ∧ w'.cell? ⟨w.heap.size, 2, none⟩ = some (.int .i64 e.s) ∧ rd w' w.heap.size 3 16 = some e.data.toArray) W0.drew := by
      refine ⟨?_, ?_, ?_⟩
      · rw [← hW]; clear hW z0 b0; go_simp
      · rw [← hW]; clear hW z0 b0; go_simp
      · rw [← hW, rd_drew, rd_alloc _ _ _ _ _ (by simp)]; exact rd_dat _ _ _ rfl
    have hc0 : canW W0 (w.heap.size + 1) 0 19 = true := by rw [← hW]; exact canW_new _ _ _ _ _ _ (by simp) (by simp [Ent.arr_size])
    replace z0 := hide z0
    rw [hW]
    clear hW
    refine start_ (n := 10) (S := fun w' => w'.cell? ⟨w.heap.size, 1, none⟩ = some (.int .i64 e.l) ∧ w'.cell? ⟨w.heap.size, 2, none⟩ = some (.int .i64 e.s) ∧ rd w' w.heap.size 3 16 = some e.data.toArray) (ds := [9]) #[false, false, false, false, false, false, false, false, false, false] (by kernel_rfl) rfl rfl (hS) (fun hHeld => ?_)
    refine pure_ (i := 0) (N := some 25) (v := ?_) (a' := ?_) #[true, false, false, false, false, false, false, false, false, false] rfl rfl (by kernel_rfl) (fun _ _ _ h => h) (Or.inl ⟨by rfl, ?_⟩) ?_ ?_
    rotate_left
    · intro w'
      go_simp
      with_reducible rfl
    rotate_left
    · simp only [Act.put, List.setIfInBounds_toArray, List.set_cons_zero, List.set_cons_succ, i64_w, i32_w]
      rfl
    refine pure_ (i := 1) (N := some 26) (v := ?_) (a' := ?_) #[true, true, false, false, false, false, false, false, false, false] rfl rfl (by kernel_rfl) (fun _ _ _ h => h) (Or.inl ⟨by rfl, ?_⟩) ?_ ?_
    rotate_left
    · intro w'
      go_simp
      with_reducible rfl
    rotate_left
    · simp only [Act.put, List.setIfInBounds_toArray, List.set_cons_zero, List.set_cons_succ, i64_w, i32_w]
      rfl
    refine take_ (i := 2) (N := some 27) (v := ?_) (a' := ?_) #[true, true, true, false, false, false, false, false, false, false] rfl rfl (by kernel_rfl) (fun _ _ _ h => h) (Or.inl ⟨by rfl, ?_⟩) hHeld ?_ ?_
    rotate_left
    · intro w' hs_; obtain ⟨s0, s1, s2⟩ := hs_
      go_simp
      with_reducible rfl
    rotate_left
    · simp only [Act.put, List.setIfInBounds_toArray, List.set_cons_zero, List.set_cons_succ, i64_w, i32_w]
      rfl
    refine pure_ (i := 4) (N := some 29) (v := ?_) (a' := ?_) #[true, true, true, false, true, false, false, false, false, false] rfl rfl (by kernel_rfl) (fun _ _ _ h => h) (Or.inl ⟨by rfl, ?_⟩) ?_ ?_
    rotate_left
    · intro w'
      go_simp
      with_reducible rfl
    rotate_left
    · simp only [Act.put, List.setIfInBounds_toArray, List.set_cons_zero, List.set_cons_succ, i64_w, i32_w]
      rfl
    refine take_ (i := 5) (N := some 30) (v := ?_) (a' := ?_) #[true, true, true, false, true, true, false, false, false, false] rfl rfl (by kernel_rfl) (fun _ _ _ h => h) (Or.inl ⟨by rfl, ?_⟩) hHeld ?_ ?_
    rotate_left
    · intro w' hs_; obtain ⟨s0, s1, s2⟩ := hs_
      go_simp
      with_reducible rfl
    rotate_left
    · simp only [Act.put, List.setIfInBounds_toArray, List.set_cons_zero, List.set_cons_succ, i64_w, i32_w]
      rfl
    refine one_ (i := 3) (N := some 28) #[true, true, true, true, true, true, false, false, false, false] rfl rfl (by kernel_rfl) (by decide) (fun K hK => ?_)
    refine goes_ Try.func18 (by kernel_rfl) rfl #[.int .i64 e.l, .int .i64 100] (by rfl) rfl rfl (by (try simp only [List.map_toArray, List.map_cons, List.map_nil]); first | done | rfl) ?_
    with_reducible refine (w10_any e.l 100 W0.drew hl (by omega) (by omega)).mono ?_
    rintro x w1 ⟨rfl, rfl⟩
    refine ⟨_, rfl, hK.out _ _ hS (fun hHeld => ?_)⟩
    clear hK K
    refine norm_ (a' := ?_) ?_ ?_
    rotate_left
    · show Act.put _ (some 28) _ = _
      simp only [Act.put, List.setIfInBounds_toArray, List.set_cons_zero, List.set_cons_succ, i64_w, i32_w]
      rfl
    refine one_ (i := 6) (N := some 31) #[true, true, true, true, true, true, true, false, false, false] rfl rfl (by kernel_rfl) (by decide) (fun K hK => ?_)
    refine goes_ Try.func18 (by kernel_rfl) rfl #[.int .i64 e.s, .int .i64 1000] (by rfl) rfl rfl (by (try simp only [List.map_toArray, List.map_cons, List.map_nil]); first | done | rfl) ?_
    with_reducible refine (w10_any e.s 1000 W0.drew hs (by omega) (by omega)).mono ?_
    rintro x w1 ⟨rfl, rfl⟩
    refine ⟨_, rfl, hK.out _ _ hS (fun hHeld => ?_)⟩
    clear hK K
    refine norm_ (a' := ?_) ?_ ?_
    rotate_left
    · show Act.put _ (some 31) _ = _
      simp only [Act.put, List.setIfInBounds_toArray, List.set_cons_zero, List.set_cons_succ, i64_w, i32_w]
      rfl
    refine pure_ (i := 7) (N := some 32) (v := ?_) (a' := ?_) #[true, true, true, true, true, true, true, true, false, false] rfl rfl (by kernel_rfl) (fun _ _ _ h => h) (Or.inl ⟨by rfl, ?_⟩) ?_ ?_
    rotate_left
    · intro w'
      go_simp
      with_reducible rfl
    rotate_left
    · simp only [Act.put, List.setIfInBounds_toArray, List.set_cons_zero, List.set_cons_succ, i64_w, i32_w]
      rfl
    refine pure_ (i := 8) (N := some 33) (v := ?_) (a' := ?_) #[true, true, true, true, true, true, true, true, true, false] rfl rfl (by kernel_rfl) (fun _ _ _ h => h) (Or.inl ⟨by rfl, ?_⟩) ?_ ?_
    rotate_left
    · intro w'
      go_simp
      with_reducible rfl
    rotate_left
    · simp only [Act.put, List.setIfInBounds_toArray, List.set_cons_zero, List.set_cons_succ, i64_w, i32_w]
      rfl
    refine last_ (i := 9) (N := none) #[true, true, true, true, true, true, true, true, true, true] rfl rfl (by kernel_rfl) (by decide) (fun K hK => ?_)
    refine skip_ (w1 := ?_) (by rfl) rfl ?_ ?_
    rotate_left
    · go_simp
      rfl
    refine hK.out _ _ ?_
    clear hK K
    refine done_ (by kernel_rfl) ?_
    go_wp2_with fail
    refine bodyPost_ret (results_c Try.results14 Try.underlying37 rfl info_ent (cs := ({ k := 2, l := e.l % 100, s := q, d := fun _ => 0 } : Ent).arr) rfl (rd_wr_same _ _ _ _ _ (Ent.arr_size _).symm hc0)) rfl ⟨by rw [unhide hg2 (by trivial)], ?_⟩
    exact below_wr b0.drew (by omega) _ _
  · go_enter Try.func14, Try.ntmps14
    go_wp2_with fail
    refine ((unhide hwk) _ hk (by omega) (by omega)).mono ?_
    rintro x w1 ⟨rfl, rfl⟩
    go_wp2_with fail
    refine bodyPost_ret (results_c Try.results14 Try.underlying37 rfl info_ent (cs := ({ k := K, l := 0, s := 0, d := fun _ => 0 } : Ent).arr) rfl (rd_new_whole _ _ _ _ _ _ (by simp) (Ent.arr_size _).symm)) rfl ⟨by rw [(unhide hg3) c1 c2], ?_⟩
    exact ((Below.refl _ _).alloc (Nat.le_refl _) _).alloc (by simp) _
/-- whole numbers of a slot lie in their kind's range -/
def Ent.Wf (e : Ent) : Prop := I64 e.k ∧ I64 e.l ∧ I64 e.s ∧ ∀ i, 0 ≤ e.d i ∧ e.d i < 256
theorem goodE_wf {e : Ent} (h : e.Wf) : (goodE e).Wf := by
  have h1 := Int.emod_nonneg e.k (b := 4) (by omega)
  have h2 := Int.emod_lt_of_pos e.k (b := 4) (by omega)
  have h3 := Int.emod_nonneg e.l (b := 100) (by omega)
  have h4 := Int.emod_lt_of_pos e.l (b := 100) (by omega)
  have h5 := Int.emod_nonneg e.s (b := 1000) (by omega)
  have h6 := Int.emod_lt_of_pos e.s (b := 1000) (by omega)
  have hz : ∀ i : Fin 16, 0 ≤ (fun _ : Fin 16 => (0 : Int)) i ∧ (fun _ : Fin 16 => (0 : Int)) i < 256 := fun i => ⟨by simp, by simp⟩
  unfold goodE
  split
  · exact ⟨⟨by simp, by simp⟩, ⟨by simp; omega, by simp; omega⟩, ⟨by simp; omega, by simp; omega⟩, h.2.2.2⟩
  · split
    · exact ⟨⟨by simp, by simp⟩, ⟨by simp; omega, by simp; omega⟩, ⟨by simp; omega, by simp; omega⟩, hz⟩
    · exact ⟨⟨by simp; omega, by simp; omega⟩, ⟨by simp, by simp⟩, ⟨by simp, by simp⟩, hz⟩
end Go.Proofs.Ytnihgfhaenpfkaa.Base
