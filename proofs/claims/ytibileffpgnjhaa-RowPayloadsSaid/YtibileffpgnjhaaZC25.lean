/-
  Parts of a proof, laid together by a program of mine (pack.py): Re1.
-/
import Derived.Test.YtibileffpgnjhaaZC24
namespace Go.Proofs.Ytibileffpgnjhaa.Base
open Go.RowKit Go.Proofs.YtibileffpgnjhaaW.PrintWords Go.Proofs.YtibileffpgnjhaaW.PrintLast
set_option linter.unusedSimpArgs false
set_option linter.unusedVariables false
attribute [local go_sem] Ent.arr0 Ent.arr1 Ent.arr2 Ent.set1 Ent.set2 Ent.arr_size Ent.okW Ent.lit run_ldV_ent run_stV_ent ldR_some stR_true rd_new_whole rd_alloc canW_new canW_alloc wr_new wr_alloc rd_drew rd_drewN canW_drew canW_drewN run_bsS_ent run_bsS_ent0 run_eqI_ent rd_setCell rd_setCell_same canW_setCell' Option.map_some cell_wr_other rd_wr_same rd_wr_other
attribute [local go_sem ↓] ldV_ent stV_ent bsS_ent eqI_ent
attribute [local go_sem] Ent.arr0g Ent.arr1g Ent.arr2g run_ldV_dat rd_dat run_eqI_dat dat_lit
attribute [local go_sem ↓] ldV_dat eqI_dat
attribute [local go_sem] run_bdE4 run_bdE3 run_bdE1 run_bdE0
attribute [local go_sem ↓] build_ent
attribute [local go_sem] wide_fn' wide_depth' Oper.semAt_some
theorem padL_at {es : List Ent} {n : Nat} {pre : List (Int × Ent)} {x : Int × Ent} (h : pre ++ [x] <+: padL es n) : x = ((pre.length : Int), es.getD pre.length zeroE) := by
  obtain ⟨r, hr⟩ := h
  have h1 : (padL es n)[pre.length]? = some x := by rw [← hr]; simp
  unfold padL at h1
  rw [List.getElem?_map] at h1
  obtain ⟨i, hi, rfl⟩ := Option.map_eq_some_iff.1 h1
  obtain ⟨h2, h3⟩ := List.getElem?_eq_some_iff.1 hi
  simp at h3
  subst h3
  rfl
theorem size_set' (w : World) (p : Addr) (v : Value) : (w.setCell p v).heap.size = w.heap.size := by simp [World.setCell]
theorem dies_t (n : Int) (w : World) (h : 6 ≤ n ∧ n ≤ 8) : CallsIn Fence.wide 0 Try.prog 23 #[.int .i64 n] w fun e w' => e = .returned (.bool true) ∧ w = w' := by
  have := dies_any n w
  rw [decide_eq_true h.1, decide_eq_true h.2] at this
  exact callsIn_wide.2 this
theorem place_t (n : Int) (w : World) (h : 0 ≤ n ∧ n ≤ 255) : CallsIn Fence.wide 0 Try.prog 24 #[.int .i64 n] w fun e w' => e = .returned (.bool true) ∧ w = w' := by
  have := place_any n w
  rw [decide_eq_true h.1, decide_eq_true h.2] at this
  exact callsIn_wide.2 this
set_option maxRecDepth 100000 in
set_option maxHeartbeats 4000000 in
theorem encode_ok (d n : Nat) (s u a : Int) (A : Option Addr) (c : Nat) (es : List Ent) (p q : List Int) (w : World) (hd : 6 ≤ d ∧ d ≤ 8) (hdn : d = n + 2) (hs : 1 ≤ s ∧ s ≤ 1099511627776) (hu : 0 ≤ u ∧ u ≤ 255) (ha : 0 ≤ a ∧ a ≤ 255) (hl : es.length ≤ n) (hwf : ∀ e ∈ es, e.Wf) (hok : ∀ e ∈ es, OkE e)
    (hc : es.length ≤ c) (hs0 : Sl w 0 w.heap.size 19 A (es.map Ent.arr)) (hp : p.length ≤ 1000000) (hq : q.length ≤ 1000000) (hpar : ParC 30 (rowsE s u a es n) p q) :
    Calls Try.prog 12 #[.int .i64 d, .int .i64 s, .int .i64 u, .int .i64 a, .slice A es.length c] w fun x w' =>
      (∃ A' c' T, x = .returned (.tuple #[.slice A' d c', .int .i64 0]) ∧ d ≤ c' ∧ Rws w' w.heap.size (.slice A' d c') T ∧ T.map (·.2.2) = rowsE s u a es n ++ [p, q]) ∧ Below w.heap.size w w' := by
  have hlI : (es.length : Int) ≤ (d : Int) - 2 := by omega
  have hdI : (d : Int) - 2 = (n : Int) := by omega
  have hdw : 6 ≤ (d : Int) ∧ (d : Int) ≤ 8 := by omega
  have hfb : FirstBad es es.length := ⟨Nat.le_refl _, fun i hi _ => hok _ (List.getElem_mem hi), fun h => absurd h (Nat.lt_irrefl _)⟩
  have hnb : n ≤ 6 ∧ 4 ≤ n := by omega
  replace hdn := hide hdn; replace hdI := hide hdI
  refine (callsIn_wide (n := 0)).1 ?_
  refine callsIn_of_wp_marks Try.func12 rfl trivial ?_ rfl
  simp only [Try.ntmps12, List.size_toArray, List.length_cons, List.length_nil, Nat.reduceAdd, Nat.reduceSub, Array.replicate_succ, Array.replicate_zero, List.push_toArray, List.append_toArray, List.nil_append, List.cons_append]
  gi_wp2_with fail
  refine (dies_t _ _ hdw).mono ?_
  rintro e w1 ⟨rfl, rfl⟩
  gi_wp2_with fail
  refine (place_t _ _ hu).mono ?_
  rintro e w1 ⟨rfl, rfl⟩
  gi_wp2_with fail
  refine (place_t _ _ ha).mono ?_
  rintro e w1 ⟨rfl, rfl⟩
  gi_wp2_with fail
  obtain ⟨W0, hW⟩ : ∃ W0, ((w.alloc (Obj.cells #[Value.int .i64 s] 3)).alloc (Obj.cells #[Value.int .i64 u] 3)).alloc (Obj.cells #[Value.int .i64 a] 3) = W0 := ⟨_, rfl⟩
  rw [hW]
  have z0 : W0.heap.size = w.heap.size + 3 := by rw [← hW]; simp
  have b0 : Below w.heap.size w W0 := by rw [← hW]; exact (((Below.refl _ _).alloc (Nat.le_refl _) _).alloc (by simp) _).alloc (by simp; omega) _
  have f1 : W0.cell? ⟨w.heap.size, 0, none⟩ = some (.int .i64 s) := by rw [← hW]; clear hW z0 b0; go_simp
  have f2 : W0.cell? ⟨w.heap.size + 1, 0, none⟩ = some (.int .i64 u) := by rw [← hW]; clear hW z0 b0; go_simp
  have f3 : W0.cell? ⟨w.heap.size + 1 + 1, 0, none⟩ = some (.int .i64 a) := by rw [← hW]; clear hW z0 b0; go_simp
  have q1 : W0.heap[w.heap.size]? = some (.cells #[.int .i64 s] 3 (0, 0)) := by rw [← hW]; exact (Below.heap_alloc _ _ _ (by simp; omega)).trans ((Below.heap_alloc _ _ _ (by simp)).trans (heap_alloc_new _ _))
  have q2 : W0.heap[w.heap.size + 1]? = some (.cells #[.int .i64 u] 3 (0, 0)) := by
    rw [← hW]
    refine (Below.heap_alloc _ _ _ (by simp)).trans ?_
    rw [show w.heap.size + 1 = (w.alloc (Obj.cells #[Value.int .i64 s] 3)).heap.size from by simp]
    exact heap_alloc_new _ _
  have q3 : W0.heap[w.heap.size + 2]? = some (.cells #[.int .i64 a] 3 (0, 0)) := by
    rw [← hW]
    rw [show w.heap.size + 2 = ((w.alloc (Obj.cells #[Value.int .i64 s] 3)).alloc (Obj.cells #[Value.int .i64 u] 3)).heap.size from by simp]
    exact heap_alloc_new _ _
  replace q1 := hide q1; replace q2 := hide q2; replace q3 := hide q3
  clear hW
  have hs1 : Sl W0 0 W0.heap.size 19 A (es.map Ent.arr) := (hs0.below b0).more b0.size
  have hcb := contains_bad A c es.length es W0 (by omega) hfb hs1 false (by simp)
  refine (callsIn_wide.2 hcb).mono ?_
  rintro e w1 ⟨rfl, hb1⟩
  have hdI2 : IntKind.i64.wrap ((d : Int) - 2) = (n : Int) := by rw [unhide hdI]; exact IntWalk.i64_in _ (by omega)
  clear hcb
  replace z0 := hide z0
  gi_wp2_with fail
  refine (callsIn_wide.2 (padded_any A es.length c (n : Int) _)).mono ?_
  rintro e w2 ⟨rfl, rfl⟩
  gi_wp2_with fail
  obtain ⟨W3, hW3⟩ : ∃ W3, ((w1.alloc (Obj.cells #[Value.slice none 0 0] 25)).alloc (Obj.cells #[Value.slice A es.length c] 22)).alloc (Obj.cells #[Value.int .i64 (n : Int)] 3) = W3 := ⟨_, rfl⟩
  rw [hW3]
  have hz1 : w.heap.size + 3 ≤ w1.heap.size := by have := hb1.size; rw [unhide z0] at this; exact this
  have z3 : W3.heap.size = w1.heap.size + 3 := by rw [← hW3]; simp
  have bb3 : Below w1.heap.size w1 W3 := by rw [← hW3]; exact (((Below.refl _ _).alloc (Nat.le_refl _) _).alloc (by simp) _).alloc (by simp; omega) _
  have b3 : Below w.heap.size w W3 := (b0.trans (hb1.mono (by rw [unhide z0]; omega))).trans (bb3.mono (by omega))
  have k0 : W3.heap[w1.heap.size]? = some (.cells #[.slice none 0 0] 25 (0, 0)) := by
    rw [← hW3]
    exact (Below.heap_alloc _ _ _ (by simp; omega)).trans ((Below.heap_alloc _ _ _ (by simp)).trans (heap_alloc_new _ _))
  have fl : W3.cell? ⟨w1.heap.size + 1, 0, none⟩ = some (.slice A es.length c) := by rw [← hW3]; clear hW3 z3 bb3 b3 k0; go_simp
  have fn : W3.cell? ⟨w1.heap.size + 1 + 1, 0, none⟩ = some (.int .i64 n) := by rw [← hW3]; clear hW3 z3 bb3 b3 k0 fl; go_simp
  clear hW3
  have hI0 : EnI w w1.heap.size s u a es [] W3 := by
    refine ⟨none, 0, [], b3, by omega, k0, ?_, ?_, ?_, Rws.nil _ _, fun t ht => by simp at ht, rfl⟩
    · exact (bb3.block _ (by omega)).trans ((hb1.block _ (by rw [unhide z0]; omega)).trans (unhide q1))
    · exact (bb3.block _ (by omega)).trans ((hb1.block _ (by rw [unhide z0]; omega)).trans (unhide q2))
    · exact (bb3.block _ (by omega)).trans ((hb1.block _ (by rw [unhide z0]; omega)).trans (unhide q3))
  have hsM : Sl W3 0 w.heap.size 19 A (es.map Ent.arr) := hs0.below b3
  replace z3 := hide z3
  clear f1 f2 f3 k0 q1 q2 q3
  refine range_c (gf := 47) rfl (fun _ _ => rfl) (pad1_c (w1.heap.size + 1) (w1.heap.size + 1 + 1) w.heap.size (w1.heap.size + 3) n A c es (by omega) (by omega) (by omega) (by omega) (by omega) W3 fl fn hsM (by rw [unhide z3]; omega))
    (fun h k => h.trans k) (fun W l o o' hl h _ _ => ⟨by simp [World.putObj], World.putObj_heap_other (by rw [unhide z3] at hl; omega), World.putObj_heap_other (by rw [unhide z3] at hl; omega), fun k hk => World.putObj_heap_other (by rw [unhide z3] at hl; omega)⟩) (fun A B h => ⟨h.size, fun k o hk _ => (h.block k (Array.getElem?_eq_some_iff.1 hk).1).trans hk⟩) (Below.refl _ _) (fun _ => rfl)
    (fun pre W => EnI w w1.heap.size s u a es pre W) (fun _ _ _ => False) ?_ ?_ ?_ ?_ hI0 ?_ ?_ ?_
  · rintro pre X Y row h hg hr
    exact h.grow hg (fun r e => ⟨by have := (hr r e).1; rw [unhide z3] at this; omega, (hr r e).2⟩)
  · intro c s W W' row h; exact h.elim
  · rintro pre X Y hs h
    exact h.below hs
  · intro c pre A B _ h; exact h
  · rintro l pre ⟨xi, X⟩ W hI hlen hsp hsz
    have hx := padL_at hsp
    injection hx with hx1 hx2
    have hpl : pre.length < n := hlen
    have hxi : 0 ≤ xi ∧ xi ≤ 6 := by omega
    have hXw : X.Wf := by
      rw [hx2]
      rcases Nat.lt_or_ge pre.length es.length with h | h
      · rw [List.getD_eq_getElem?_getD, List.getElem?_eq_getElem h]; exact hwf _ (List.getElem_mem h)
      · rw [List.getD_eq_getElem?_getD, List.getElem?_eq_none h]; exact ⟨by decide, by decide, by decide, fun _ => ⟨Int.le_refl _, by show (0 : Int) < 256; omega⟩⟩
    have hx3 : Hid (bytesE s u a xi X = bytesE s u a (pre.length : Int) (es.getD pre.length zeroE)) := hide (by rw [hx1, hx2])
    have hWz : w1.heap.size + 3 + 1 < W.heap.size := by rw [← unhide z3]; exact hsz
    clear hx1 hx2
    replace hXw := hide hXw
    gi_wp2_with fail
    refine ⟨KeepsOthers.alloc _ _, KpP.of_below ((Below.refl W.heap.size W).alloc (Nat.le_refl _) _) (by omega) (by omega) (by omega), fun X' => EnI w w1.heap.size s u a es pre X' ∧ X'.heap[W.heap.size]? = some (.cells X.arr 44 (0, 0)), ?_, ⟨hI.below ((Below.refl _ _).alloc (Nat.le_refl _) _), heap_alloc_new _ _⟩, ?_⟩
    · rintro Y Z row ⟨h1, h2⟩ hg hr
      refine ⟨h1.grow hg (fun r e => ⟨by have := (hr r e).1; rw [unhide z3] at this; omega, (hr r e).2⟩), (hg.block _ (Array.getElem?_eq_some_iff.1 h2).1 (fun e => ?_)).trans h2⟩
      obtain ⟨_, o, ho, hc⟩ := hr _ e.symm
      rw [h2] at ho
      cases ho
      simp [Obj.isCells] at hc
    rintro W₂ ⟨⟨A2, c2, T, i1, i2, i3, i4, i5, i6, i7, i8, i9⟩, hX2⟩ hz2
    obtain ⟨hXk, hXl, hXs, _⟩ := unhide hXw
    have e0 : W₂.cell? ⟨w1.heap.size, 0, none⟩ = some (.slice A2 T.length c2) := by simp [World.cell?, i3]
    have e1 : W₂.cell? ⟨w.heap.size, 0, none⟩ = some (.int .i64 s) := by simp [World.cell?, i4]
    have e2 : W₂.cell? ⟨w.heap.size + 1, 0, none⟩ = some (.int .i64 u) := by simp [World.cell?, i5]
    have e3 : W₂.cell? ⟨w.heap.size + 1 + 1, 0, none⟩ = some (.int .i64 a) := by simp [World.cell?, i6]
    have e4 : rd W₂ W.heap.size 0 19 = some X.arr := by unfold rd; rw [hX2]; simp [Ent.arr_size]
    have e5 : W₂.frozen? ⟨w1.heap.size, 0, none⟩ = false := by simp [World.frozen?, i3]
    have hl2 : W.heap.size < W₂.heap.size := (Array.getElem?_eq_some_iff.1 hX2).1
    have hTl : T.length = pre.length := by have := congrArg List.length i9; rw [List.length_map, rowsE_len] at this; exact this
    have hTb : T.length ≤ 6 := by omega
    have keep0 : ∀ w', Below W₂.heap.size W₂ w' → (fun w' => w'.cell? ⟨w1.heap.size, 0, none⟩ = some (.slice A2 T.length c2) ∧ w'.cell? ⟨w.heap.size, 0, none⟩ = some (.int .i64 s) ∧ w'.cell? ⟨w.heap.size + 1, 0, none⟩ = some (.int .i64 u) ∧ w'.cell? ⟨w.heap.size + 1 + 1, 0, none⟩ = some (.int .i64 a) ∧ rd w' W.heap.size 0 19 = some X.arr) w' := fun w' h => ⟨(h.cell (p := ⟨w1.heap.size, 0, none⟩) i2).trans e0, (h.cell (p := ⟨w.heap.size, 0, none⟩) (by show w.heap.size < _; omega)).trans e1, (h.cell (p := ⟨w.heap.size + 1, 0, none⟩) (by show w.heap.size + 1 < _; omega)).trans e2, (h.cell (p := ⟨w.heap.size + 1 + 1, 0, none⟩) (by show w.heap.size + 1 + 1 < _; omega)).trans e3, (rd_below h hl2 _ _).trans e4⟩
    replace i3 := hide i3; replace i4 := hide i4; replace i5 := hide i5; replace i6 := hide i6; replace hX2 := hide hX2; replace i9 := hide i9; replace hTl := hide hTl; replace hz2 := hide hz2
    clear e0 e1 e2 e3 e4
    refine wpIn_block ?_
    refine startIn_ (n := 11) (S := fun w' => w'.cell? ⟨w1.heap.size, 0, none⟩ = some (.slice A2 T.length c2) ∧ w'.cell? ⟨w.heap.size, 0, none⟩ = some (.int .i64 s) ∧ w'.cell? ⟨w.heap.size + 1, 0, none⟩ = some (.int .i64 u) ∧ w'.cell? ⟨w.heap.size + 1 + 1, 0, none⟩ = some (.int .i64 a) ∧ rd w' W.heap.size 0 19 = some X.arr) (ds := [9, 10]) #[false, false, false, false, false, false, false, false, false, false, false] (by kernel_rfl) (by kernel_rfl) ?hQ rfl rfl (keep0 _ (Below.refl _ _).drew) (fun hHeld => ?_)
    case hQ => rintro ⟨_, _, h⟩; exact h
    refine take_ (i := 0) (N := some 53) (v := ?_) (a' := ?_) #[true, false, false, false, false, false, false, false, false, false, false] rfl rfl (by kernel_rfl) (fun _ _ _ h => h) (Or.inl ⟨by rfl, ?_⟩) hHeld ?_ ?_
    rotate_left
    · intro w' hs_; obtain ⟨s0, s1, s2, s3, s4⟩ := hs_
      go_simp
      with_reducible rfl
    rotate_left
    · simp only [Act.put, List.setIfInBounds_toArray, List.set_cons_zero, List.set_cons_succ, i64_w, i32_w]
      rfl
    refine take_ (i := 1) (N := some 54) (v := ?_) (a' := ?_) #[true, true, false, false, false, false, false, false, false, false, false] rfl rfl (by kernel_rfl) (fun _ _ _ h => h) (Or.inl ⟨by rfl, ?_⟩) hHeld ?_ ?_
    rotate_left
    · intro w' hs_; obtain ⟨s0, s1, s2, s3, s4⟩ := hs_
      go_simp
      with_reducible rfl
    rotate_left
    · simp only [Act.put, List.setIfInBounds_toArray, List.set_cons_zero, List.set_cons_succ, i64_w, i32_w]
      rfl
    refine take_ (i := 2) (N := some 55) (v := ?_) (a' := ?_) #[true, true, true, false, false, false, false, false, false, false, false] rfl rfl (by kernel_rfl) (fun _ _ _ h => h) (Or.inl ⟨by rfl, ?_⟩) hHeld ?_ ?_
    rotate_left
    · intro w' hs_; obtain ⟨s0, s1, s2, s3, s4⟩ := hs_
      go_simp
      with_reducible rfl
    rotate_left
    · simp only [Act.put, List.setIfInBounds_toArray, List.set_cons_zero, List.set_cons_succ, i64_w, i32_w]
      rfl
    refine take_ (i := 3) (N := some 56) (v := ?_) (a' := ?_) #[true, true, true, true, false, false, false, false, false, false, false] rfl rfl (by kernel_rfl) (fun _ _ _ h => h) (Or.inl ⟨by rfl, ?_⟩) hHeld ?_ ?_
    rotate_left
    · intro w' hs_; obtain ⟨s0, s1, s2, s3, s4⟩ := hs_
      go_simp
      with_reducible rfl
    rotate_left
    · simp only [Act.put, List.setIfInBounds_toArray, List.set_cons_zero, List.set_cons_succ, i64_w, i32_w]
      rfl
    refine pure_ (i := 4) (N := some 57) (v := ?_) (a' := ?_) #[true, true, true, true, true, false, false, false, false, false, false] rfl rfl (by kernel_rfl) (fun _ _ _ h => h) (Or.inl ⟨by rfl, ?_⟩) ?_ ?_
    rotate_left
    · intro w'
      go_simp
      with_reducible rfl
    rotate_left
    · simp only [Act.put, List.setIfInBounds_toArray, List.set_cons_zero, List.set_cons_succ, i64_w, i32_w]
      rfl
    refine pure_ (i := 5) (N := some 58) (v := ?_) (a' := ?_) #[true, true, true, true, true, true, false, false, false, false, false] rfl rfl (by kernel_rfl) (fun _ _ _ h => h) (Or.inl ⟨by rfl, ?_⟩) ?_ ?_
    rotate_left
    · intro w'
      go_simp
      with_reducible rfl
    rotate_left
    · simp only [Act.put, List.setIfInBounds_toArray, List.set_cons_zero, List.set_cons_succ, i64_w, i32_w]
      rfl
    refine take_ (i := 6) (N := some 59) (v := ?_) (a' := ?_) #[true, true, true, true, true, true, true, false, false, false, false] rfl rfl (by kernel_rfl) (fun _ _ _ h => h) (Or.inl ⟨by rfl, ?_⟩) hHeld ?_ ?_
    rotate_left
    · intro w' hs_; obtain ⟨s0, s1, s2, s3, s4⟩ := hs_
      go_simp
      with_reducible rfl
    rotate_left
    · simp only [Act.put, List.setIfInBounds_toArray, List.set_cons_zero, List.set_cons_succ, i64_w, i32_w]
      rfl
    refine one_ (i := 7) (N := some 60) #[true, true, true, true, true, true, true, true, false, false, false] rfl rfl (by kernel_rfl) (by decide) (fun K hK => ?_)
    refine goes_ Try.func29 (by kernel_rfl) rfl #[.agg #[.int .i64 s, .int .i64 u, .int .i64 a, .int .i64 xi], .agg X.arr] (by rfl) rfl rfl (by (try simp only [List.map_toArray, List.map_cons, List.map_nil]); first | done | rfl) ?_
    with_reducible refine (bytes_any s u a xi X W₂.drew (by unfold I64; omega) (by unfold I64; omega) (by unfold I64; omega) (by unfold I64; omega) hXk hXl hXs).mono ?_
    rintro y W4 ⟨⟨A4, rfl, hs4⟩, hb4⟩
    have k4 : Below W₂.heap.size W₂ W4 := (Below.refl _ W₂).drew.trans hb4
    refine ⟨_, rfl, hK.out _ _ (keep0 _ k4) (fun hHeld => ?_)⟩
    clear hK K
    refine norm_ (a' := ?_) ?_ ?_
    rotate_left
    · show Act.put _ (some 60) _ = _
      simp only [Act.put, List.setIfInBounds_toArray, List.set_cons_zero, List.set_cons_succ, i64_w, i32_w]
      rfl
    refine one_ (i := 8) (N := some 61) #[true, true, true, true, true, true, true, true, true, false, false] rfl rfl (by kernel_rfl) (by decide) (fun K hK => ?_)
    go_simp
    refine hK.out _ _ (keep0 _ (k4.alloc k4.size _)) (fun hHeld => ?_)
    clear hK K
    have hlt := fun g e => i7.1.lt g e
    have h4z : W₂.heap.size ≤ W4.heap.size := k4.size
    have hT4 : Rws W4 (w1.heap.size + 3) (.slice A2 T.length c2) T := i7.below k4
    obtain ⟨A5, c5, W5, hrun, hc5, hT5, hg5⟩ := Rws.app W4 (w1.heap.size + 3) (.slice A2 T.length c2) T hT4 [(A4, 48, bytesE s u a xi X)] 1 rfl (fun t ht => by
      rw [List.mem_singleton.1 ht]
      refine ⟨by rw [bytesE_len]; exact Nat.le_refl _, by rw [bytesE_len]; omega, hs4.less (Nat.zero_le _), fun ad had => ?_⟩
      have hA4 : A4 = some ad := had
      obtain ⟨b4, o4, e4, hL4, hB4, _⟩ := hs4.pos (by rw [By.len, bytesE_len]; omega)
      rw [hA4] at e4; injection e4 with e4; subst e4
      exact ⟨hB4, fun e => by have := (hlt b4 e.symm).2; have h9 : W₂.heap.size ≤ b4 := hL4; omega⟩) (by omega) (by omega) 25
    have hcell : ([((A4, 48, bytesE s u a xi X) : Hr)].map Hr.cell).toArray = #[Value.slice A4 48 48] := by simp [Hr.cell, bytesE_len]
    rw [hcell] at hrun hg5
    have nBo : ∀ k, k < w1.heap.size + 3 → some k ≠ (Value.slice A2 T.length c2).ownBlock := fun k hk e => by have := (hlt k e.symm).1; omega
    have k5 : ∀ k, k < w1.heap.size + 3 → W5.heap[k]? = W₂.heap[k]? := fun k hk => (hg5.block k (by simp; omega) (nBo k hk)).trans ((Below.heap_alloc _ _ _ (by omega)).trans (k4.block k (by omega)))
    have b5 : Boxed W5 w1.heap.size 25 (.slice A2 T.length c2) := (k5 _ (by omega)).trans (unhide i3)
    have b5c := b5.cell
    have b5f := b5.frozen
    have hb5 : Below w.heap.size w W5 := below_grown ((i1.trans (k4.mono i1.size)).alloc (by have := i1.size; omega) _) hg5 (by have := i1.size; simp; omega) (fun k e => by have := (hlt k e).1; omega)
    have kO : KeepsOthers W₂ W5 := ((KeepsOthers.trans ⟨k4.size, fun k o hk _ => (k4.block k (Array.getElem?_eq_some_iff.1 hk).1).trans hk⟩ (KeepsOthers.alloc W4 _)).trans (KeepsOthers.of_grownBy hg5 (fun j o e ho => by
      rcases (hT4.1.alloc (Obj.cells #[Value.slice A4 48 48] 47)).2 with ⟨h0, _⟩ | ⟨g, cap, cur, h0, _, h2, _⟩
      · rw [h0] at e; simp [Value.ownBlock] at e
      · rw [h0] at e; simp only [Value.ownBlock, Option.some.injEq] at e; subst e; rw [h2] at ho; cases ho; rfl)))
    have h5z : W₂.heap.size ≤ W5.heap.size := kO.size
    replace b5 := hide b5
    refine last_ (i := 9) (N := some 62) #[true, true, true, true, true, true, true, true, true, true, false] rfl rfl (by kernel_rfl) (by decide) (fun K hK => ?_)
    refine step_append_ex (.tmp 53) (.tmp 61) 25 rfl (by rfl) ⟨_, _, hrun, ?_⟩
    refine hK.out _ _ ?_
    clear hK K hHeld
    refine norm_ (a' := ?_) ?_ ?_
    rotate_left
    · show Act.put _ (some 62) _ = _
      simp only [Act.put, List.setIfInBounds_toArray, List.set_cons_zero, List.set_cons_succ, i64_w, i32_w]
      rfl
    refine last_ (i := 10) (N := none) #[true, true, true, true, true, true, true, true, true, true, true] rfl rfl (by kernel_rfl) (by decide) (fun K hK => ?_)
    refine skip_ (w1 := ?_) (by rfl) rfl ?_ ?_
    rotate_left
    · go_simp
      rfl
    refine hK.out _ _ ?_
    clear hK K
    refine done_ (by kernel_rfl) ?_
    have hW6 : ∀ k, k ≠ w1.heap.size → (W5.setCell ⟨w1.heap.size, 0, none⟩ (.slice A5 (T.length + 1) c5)).heap[k]? = W5.heap[k]? := fun k hk => Below.heap_setCell _ _ _ _ hk
    refine ⟨kO.trans (KeepsOthers.setCell _ _ _), ⟨by rw [size_set']; exact h5z, (hW6 _ (by omega)).trans (k5 _ (by omega)), (hW6 _ (by omega)).trans (k5 _ (by omega)), fun k hk => (hW6 k (by omega)).trans (k5 k (by omega))⟩, ?_⟩
    refine ⟨A5, c5, T ++ [(A4, 48, bytesE s u a xi X)], hb5.setCell (by show w.heap.size ≤ w1.heap.size; omega) _, by rw [size_set']; omega, ?_, (hW6 _ (by omega)).trans ((k5 _ (by omega)).trans (unhide i4)), (hW6 _ (by omega)).trans ((k5 _ (by omega)).trans (unhide i5)), (hW6 _ (by omega)).trans ((k5 _ (by omega)).trans (unhide i6)), ?_, ?_, ?_⟩
    · rw [List.length_append]; exact (unhide b5).set _
    · rw [List.length_append]
      refine hT5.move (Nat.le_of_eq (size_set' _ _ _).symm) (fun k hk => hW6 k (fun e => by have := (hT5.1.lt k hk).1; omega)) (fun t ht ad had _ => hW6 _ (fun e => ?_))
      rcases List.mem_append.1 ht with h | h
      · have := i8 t h ad had; omega
      · rw [List.mem_singleton.1 h] at had
        obtain ⟨b4, o4, e4, hL4, hB4, _⟩ := hs4.pos (by rw [By.len, bytesE_len]; omega)
        have had : A4 = some ad := had
        rw [had] at e4; injection e4 with e4; subst e4
        have h9 : W₂.heap.size ≤ b4 := hL4
        have e : b4 = w1.heap.size := e
        omega
    · intro t ht ad had
      rcases List.mem_append.1 ht with h | h
      · exact i8 t h ad had
      · rw [List.mem_singleton.1 h] at had
        obtain ⟨b4, o4, e4, hL4, hB4, _⟩ := hs4.pos (by rw [By.len, bytesE_len]; omega)
        have had : A4 = some ad := had
        rw [had] at e4; injection e4 with e4; subst e4
        have h9 : W₂.heap.size ≤ b4 := hL4
        show w1.heap.size < b4
        omega
    · rw [List.map_append, unhide i9, List.length_append, List.length_singleton, rowsE_succ, ← unhide hx3]; rfl
  · rintro D xs W hDl rfl ⟨A2, c2, T, i1, i2, i3, i4, i5, i6, i7, i8, i9⟩ hD
    rw [padL_len] at i9
    have hTl : T.length = n := by have := congrArg List.length i9; rw [List.length_map, rowsE_len] at this; exact this
    have e0 := Boxed.cell i3
    have hDW : D < W.heap.size := (Array.getElem?_eq_some_iff.1 hD).1
    obtain ⟨A3, c3, hv, hc3, hC⟩ := i7.C (by omega)
    rw [i9, rowsE_len] at hv hc3 hC
    injection hv with v1 v2 v3
    have hCn : Kd.C (Kd.slice 5 (Kd.int .u8)) W A2 (rowsE s u a es n).length (rowsE s u a es n) := by rw [v1, rowsE_len]; exact hC
    have hcall := hpar A2 c2 W hCn (by rw [rowsE_len, v3]; exact hc3)
    rw [rowsE_len, ← hTl] at hcall
    have hc2 : T.length ≤ c2 := by rw [hTl, v3]; exact hc3
    clear hC hCn v1 v2 v3
    replace hTl := hide hTl; replace i9 := hide i9; replace hD := hide hD; replace i3 := hide i3; replace i4 := hide i4; replace i5 := hide i5; replace i6 := hide i6
    gi_wp2_with fail
    refine (callsIn_wide.2 hcall).mono ?_
    rintro x W7 ⟨v0, v1, rfl, ⟨ok0, hR0⟩, ⟨ok1, hR1⟩, hb7⟩
    obtain ⟨A6, c6, rfl, hc6, hs6, hblk6⟩ := by_of_R hR0
    obtain ⟨A7, c7, rfl, hc7, hs7, hblk7⟩ := by_of_R hR1
    have hz7 := hb7.size
    have e7 := (hb7.cell (p := ⟨w1.heap.size, 0, none⟩) i2).trans e0
    clear e0 hcall
    gi_wp2_with fail
    obtain ⟨W8, hW8⟩ : ∃ W8, (W7.alloc (Obj.cells #[Value.slice A6 p.length c6, Value.slice A7 q.length c7] 47)).alloc (Obj.cells #[Value.slice A2 T.length c2, Value.slice (some ⟨W7.heap.size, 0, none⟩) 2 2] 25) = W8 := ⟨_, rfl⟩
    rw [hW8]
    have z8 : W8.heap.size = W7.heap.size + 2 := by rw [← hW8]; simp
    have b8 : Below W7.heap.size W7 W8 := by rw [← hW8]; exact ((Below.refl _ _).alloc (Nat.le_refl _) _).alloc (by simp) _
    have g0 : W8.cell? ⟨W7.heap.size + 1, 0, none⟩ = some (.slice A2 T.length c2) := by rw [← hW8]; clear hW8 z8 b8; go_simp
    have g1 : W8.cell? ⟨W7.heap.size + 1, 1, none⟩ = some (.slice (some ⟨W7.heap.size, 0, none⟩) 2 2) := by rw [← hW8]; clear hW8 z8 b8 g0; go_simp
    have r0 : W8.cell? ⟨W7.heap.size, 0, none⟩ = some (.slice A6 p.length c6) := by rw [← hW8]; clear hW8 z8 b8 g0 g1; go_simp
    have r1 : W8.cell? ⟨W7.heap.size, 1, none⟩ = some (.slice A7 q.length c7) := by rw [← hW8]; clear hW8 z8 b8 g0 g1 r0; go_simp
    clear hW8
    have hT8 : Rws W8 (w1.heap.size + 3) (.slice A2 T.length c2) T := (i7.below hb7).below b8
    have hTn := unhide hTl
    obtain ⟨gA, hgA⟩ : ∃ ga : Nat, A2 = some ⟨ga, 0, none⟩ := by
      rcases hT8.1.2 with ⟨h0, h00⟩ | ⟨g, cap, cur, h0, _⟩
      · omega
      · injection h0 with h0 _ _; exact ⟨g, h0⟩
    subst hgA
    have hcat := concat_any T [(A6, c6, p), (A7, c7, q)] ⟨gA, 0, none⟩ ⟨W7.heap.size, 0, none⟩ c2 2 (W7.heap.size + 1) W8 (by omega) (by simp) (by omega) g0 g1 (fun j u hu => hT8.1.cells (g := gA) rfl j u hu) (fun j u hu => by
      rw [addr_nxt, Nat.zero_add]
      rcases j with _ | _ | j
      · simp only [List.map_cons, List.getElem?_cons_zero, Option.some.injEq] at hu; subst hu; exact r0
      · simp only [List.map_cons, List.getElem?_cons_succ, List.getElem?_cons_zero, Option.some.injEq] at hu; subst hu; exact r1
      · simp at hu) (fun t ht => by
      rcases List.mem_append.1 ht with h | h
      · obtain ⟨k1, k2, k3, k4⟩ := hT8.2 t h
        exact ⟨k1, k2, k3, fun a ha => (k4 a ha).1⟩
      · have key : ∀ (A : Option Addr) (c : Nat) (r : List Int), r.length ≤ c → r.length ≤ 1000000 → Sl W7 W.heap.size W7.heap.size 1 A (By r) → (∀ a, A = some a → W.heap.size ≤ a.block ∧ a.block < W7.heap.size) → t = (A, c, r) → t.2.2.length ≤ t.2.1 ∧ t.2.2.length ≤ 1000000 ∧ Sl W8 0 W8.heap.size 1 t.1 (By t.2.2) ∧ ∀ a, t.1 = some a → a.block < W8.heap.size := by
          rintro A c r k1 k2 k3 k4 rfl
          exact ⟨k1, k2, ((k3.less (Nat.zero_le _)).below b8).more (by omega), fun a ha => by have := (k4 a ha).2; omega⟩
        rcases List.mem_cons.1 h with h | h
        · exact key A6 c6 p hc6 hp hs6 hblk6 h
        · exact key A7 c7 q hc7 hq hs7 hblk7 (List.mem_singleton.1 h))
    have hlen2 : T.length + [((A6, c6, p) : Hr), (A7, c7, q)].length = d := by have := unhide hdn; simp; omega
    rw [hlen2] at hcat
    have hmap : (T ++ [((A6, c6, p) : Hr), (A7, c7, q)]).map (·.2.2) = rowsE s u a es n ++ [p, q] := by rw [List.map_append, unhide i9]; rfl
    have hbW : Below w.heap.size w W8 := (i1.trans (hb7.mono i1.size)).trans (b8.mono (by have := i1.size; omega))
    replace hlen2 := hide hlen2; replace hmap := hide hmap; replace z8 := hide z8; replace hTn := hide hTn
    clear g0 g1 r0 r1 hT8 hs6 hs7 hR0 hR1 hblk6 hblk7
    refine (callsIn_wide.2 hcat).mono ?_
    rintro x W9 ⟨⟨A9, c9, rfl, hc9, hR9⟩, hb9⟩
    have hbF : Below w.heap.size w W9 := hbW.trans (hb9.mono hbW.size)
    have hD9 : W9.heap[D]? = some (.deferred (some [])) := (hb9.block _ (by rw [unhide z8]; omega)).trans ((b8.block _ (by omega)).trans ((hb7.block _ hDW).trans (unhide hD)))
    clear hcat e7
    gi_wp2_with fail
    refine ⟨by simp, .inl ⟨_, _, rfl, run_takeDeferred hD9, ?_⟩⟩
    have hD3 : w.heap.size ≤ D := by rw [unhide z3] at hDl; omega
    exact ⟨_, results_tmp2 rfl _ _ _, ⟨A9, c9, T ++ [(A6, c6, p), (A7, c7, q)], rfl, hc9, (hR9.grow (grownBy_putObj' W9 D (.deferred none)) (fun r e => by cases e; exact ⟨_, hD9, rfl⟩)).less (by have := hbW.size; omega), unhide hmap⟩, hbF.grown (grownBy_putObj' W9 D (.deferred none)) hbF.size (fun k e => by cases e; exact hD3)⟩
  · intro D c pre W _ _ h; exact h.elim
end Go.Proofs.Ytibileffpgnjhaa.Base
