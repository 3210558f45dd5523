/-
  Parts of a proof, laid together by a program of mine (pack.py): PRrx2, PRrx3, Cw, Cd, Rr, Rf, Rd, Vw, Pg, Pa1, Rn.
-/
import Derived.IntWalk
import Derived.Laws.BitsLemmas
import Derived.Deep.DeepCutAuto
import Derived.Test.YtibileffpgnjhaaZC14
namespace Go.Proofs.Ytibileffpgnjhaa.PRr
open Go.RowKit Go.Proofs.YtibileffpgnjhaaW.PrintWords Go.Proofs.YtibileffpgnjhaaW.PrintLast Go.Proofs.YtibileffpgnjhaaW.PrintMore
attribute [local go_sem] max2_int min2_int max_two min_two max_three min_three max_four min_four -- for this text's walks alone
set_option linter.unusedVariables false
set_option linter.unusedSimpArgs false
mutual
noncomputable def ramekinref5_Parity.l0 : Nat → List (List Int) → List Int → List Int → Int → Option (List Int × List Int)
  | 0, _, _, _, _ => none
  | k + 1, x0, x4, x5, x6 => if x6 < (x0.length : Int) then ((ramekinref2_Exp.f x6).bind fun t119 => (ramekinref5_Parity.l1 k x0 x4 x5 x6 t119 0)) else (some (x4, x5))
noncomputable def ramekinref5_Parity.l1 : Nat → List (List Int) → List Int → List Int → Int → Int → Int → Option (List Int × List Int)
  | 0, _, _, _, _, _, _ => none
  | k + 1, x0, x4, x5, x6, x7, x8 => if 0 ≤ x6 then (if x6 < (x0.length : Int) then (if x8 < ((rd_L1 x0 x6).length : Int) then (if 0 ≤ x8 then (if x8 < (x4.length : Int) then (if x8 < (x5.length : Int) then ((ramekinref2_Mul.f x7 (rd (rd_L1 x0 x6) x8)).bind fun t128 => (ramekinref5_Parity.l1 k x0 (x4.set (x8 : Int).toNat (Go.bits .xor .u8 (rd x4 x8) (rd (rd_L1 x0 x6) x8))) (x5.set (x8 : Int).toNat (Go.bits .xor .u8 (rd x5 x8) t128)) x6 x7 (wrap64 (x8 + 1)))) else (none)) else (none)) else (none)) else (ramekinref5_Parity.l0 k x0 x4 x5 (wrap64 (x6 + 1)))) else (none)) else (none)
end
noncomputable def ramekinref5_Parity.f (k : Nat) (l0 : List (List Int)) : Option (List Int × List Int) := (ramekinref5_even.f l0 2 14).bind fun t110 => (if t110 = true then (if 0 < (l0.length : Int) then (if 0 ≤ ((rd_L1 l0 0).length : Int) then (if (((rd_L1 l0 0).length : Int) : Int).toNat ≤ 281474976710656 then (ramekinref5_Parity.l0 k l0 (List.replicate (((rd_L1 l0 0).length : Int) : Int).toNat 0) (List.replicate (((rd_L1 l0 0).length : Int) : Int).toNat 0) 0) else (none)) else (none)) else (none)) else (some (([] : List Int), ([] : List Int))))
theorem ramekinref5_Parity.mono_l : ∀ k, (∀ y0 y1 y2 y3, LeO (ramekinref5_Parity.l0 k y0 y1 y2 y3) (ramekinref5_Parity.l0 (k + 1) y0 y1 y2 y3)) ∧ (∀ y0 y1 y2 y3 y4 y5, LeO (ramekinref5_Parity.l1 k y0 y1 y2 y3 y4 y5) (ramekinref5_Parity.l1 (k + 1) y0 y1 y2 y3 y4 y5))
  | 0 => ⟨fun _ _ _ _ r h => by simp [ramekinref5_Parity.l0] at h, fun _ _ _ _ _ _ r h => by simp [ramekinref5_Parity.l1] at h⟩
  | k + 1 => by
    obtain ⟨ih0, ih1⟩ := ramekinref5_Parity.mono_l k
    refine ⟨?_, ?_⟩
    · intro y0 y1 y2 y3
      unfold ramekinref5_Parity.l0
      repeat' first
      | (with_reducible exact ih0 _ _ _ _)
      | (with_reducible exact ih1 _ _ _ _ _ _)
      | (with_reducible exact LeO.refl _)
      | (with_reducible exact LeO.none _)
      | (with_reducible refine LeO.ite ?_ ?_)
      | (with_reducible refine LeO.bind ?_ (fun _ => ?_))
      | exact ih0 _ _ _ _
      | exact ih1 _ _ _ _ _ _
      | exact LeO.none _
      | refine LeO.ite ?_ ?_
      | refine LeO.bind ?_ (fun _ => ?_)
    · intro y0 y1 y2 y3 y4 y5
      unfold ramekinref5_Parity.l1
      repeat' first
      | (with_reducible exact ih0 _ _ _ _)
      | (with_reducible exact ih1 _ _ _ _ _ _)
      | (with_reducible exact LeO.refl _)
      | (with_reducible exact LeO.none _)
      | (with_reducible refine LeO.ite ?_ ?_)
      | (with_reducible refine LeO.bind ?_ (fun _ => ?_))
      | exact ih0 _ _ _ _
      | exact ih1 _ _ _ _ _ _
      | exact LeO.none _
      | refine LeO.ite ?_ ?_
      | refine LeO.bind ?_ (fun _ => ?_)
theorem ramekinref5_Parity.mono : ∀ a0 k, LeO (ramekinref5_Parity.f k a0) (ramekinref5_Parity.f (k + 1) a0) := by
  intro a0 k
  obtain ⟨ih0, ih1⟩ := ramekinref5_Parity.mono_l k
  unfold ramekinref5_Parity.f
  repeat' first
      | (with_reducible exact ih0 _ _ _ _)
      | (with_reducible exact ih1 _ _ _ _ _ _)
      | (with_reducible exact LeO.refl _)
      | (with_reducible exact LeO.none _)
      | (with_reducible refine LeO.ite ?_ ?_)
      | (with_reducible refine LeO.bind ?_ (fun _ => ?_))
      | exact ih0 _ _ _ _
      | exact ih1 _ _ _ _ _ _
      | exact LeO.none _
      | refine LeO.ite ?_ ?_
      | refine LeO.bind ?_ (fun _ => ?_)
def ramekinref5_Parity.T3 : Bool × List (List Nat × List Nat) := (true, [([], []), ([0], [0]), ([1], [1]), ([2], [2]), ([3, 3], [3]), ([], []), ([5], [5]), ([6], [6]), ([7], [7]), ([8, 8], [8]), ([4, 0, 1, 2, 3, 4], [4]), ([9, 10, 0, 1, 2, 3, 4, 5, 6, 7, 8, 9, 10], [9])])
def ramekinref5_Parity.B3 : List Nat := [0, 1, 3, 7, 15, 0, 32, 96, 224, 480, 31, 2047]
theorem ramekinref5_Parity.tab3 : rtab .any (opsOf Try.f34 3) = ramekinref5_Parity.T3 := by kernel_rfl
theorem ramekinref5_Parity.bits3 : waitsOk ramekinref5_Parity.T3.2 ramekinref5_Parity.B3 = true := by kernel_rfl
def ramekinref5_Parity.T11 : Bool × List (List Nat × List Nat) := (true, [([], []), ([], []), ([], []), ([], []), ([2, 3], [2, 3]), ([4], [4]), ([], []), ([], []), ([6, 7], [6, 7]), ([8], [8]), ([], []), ([9, 10], [9, 10]), ([11], [11]), ([5, 12], [5, 12]), ([0, 1, 0, 1, 2, 3, 4, 5, 6, 7, 8, 9, 10, 11, 12, 13], [0, 1]), ([14, 13, 0, 1, 2, 3, 4, 5, 6, 7, 8, 9, 10, 11, 12, 13], [13, 14])])
def ramekinref5_Parity.B11 : List Nat := [0, 0, 0, 0, 12, 28, 0, 0, 192, 448, 0, 1984, 4032, 8188, 16383, 32767]
theorem ramekinref5_Parity.tab11 : rtab .any (opsOf Try.f34 11) = ramekinref5_Parity.T11 := by kernel_rfl
theorem ramekinref5_Parity.bits11 : waitsOk ramekinref5_Parity.T11.2 ramekinref5_Parity.B11 = true := by kernel_rfl
def ramekinref5_Parity.T12 : Bool × List (List Nat × List Nat) := (true, [([], []), ([], []), ([], []), ([], []), ([2, 3], [2, 3]), ([4], [4]), ([], []), ([], []), ([], []), ([7, 8], [7, 8]), ([9], [9]), ([], []), ([10, 11], [10, 11]), ([12], [12]), ([6, 13], [6, 13]), ([5, 14], [5, 14]), ([0, 1, 0, 1, 2, 3, 4, 5, 6, 7, 8, 9, 10, 11, 12, 13, 14, 15], [0, 1]), ([16, 15, 14, 0, 1, 2, 3, 4, 5, 6, 7, 8, 9, 10, 11, 12, 13, 14, 15], [15, 16])])
def ramekinref5_Parity.B12 : List Nat := [0, 0, 0, 0, 12, 28, 0, 0, 0, 384, 896, 0, 3968, 8064, 16320, 32764, 65535, 131071]
theorem ramekinref5_Parity.tab12 : rtab .any (opsOf Try.f34 12) = ramekinref5_Parity.T12 := by kernel_rfl
theorem ramekinref5_Parity.bits12 : waitsOk ramekinref5_Parity.T12.2 ramekinref5_Parity.B12 = true := by kernel_rfl
set_option maxHeartbeats 8000000 in
set_option maxRecDepth 100000 in
theorem ramekinref5_Parity.calls (k : Nat) (A0 : Option Addr) (c0 : Nat) (l0 : List (List Int)) (r1 : List Int) (r2 : List Int) (w : World) (hr0 : Kd.C (Kd.slice 5 (Kd.int .u8)) w A0 l0.length l0) (hc0 : l0.length ≤ c0) (h : ramekinref5_Parity.f k l0 = some (r1, r2)) :
    Calls Try.prog 34 #[.slice A0 l0.length c0] w fun e w' => ∃ v0_ v1_ : Value, e = .returned (.tuple #[v0_, v1_]) ∧ Kd.R (Kd.int .u8) 5 w' w.heap.size (fun k_ => some k_ ≠ (v1_ : Value).ownBlock) v0_ r1 ∧ Kd.R (Kd.int .u8) 5 w' w.heap.size (fun k_ => some k_ ≠ (v0_ : Value).ownBlock) v1_ r2 ∧ Below w.heap.size w w' := by
  have HR0 := Aside0.mk hr0
  have HC0 := Aside0.mk hc0
  clear hr0 hc0
  have HB := Aside0.mk (Below.refl w.heap.size w)
  have H : ((ramekinref5_even.f l0 2 14).bind fun t110 => (if t110 = true then (if 0 < (l0.length : Int) then (if 0 ≤ ((rd_L1 l0 0).length : Int) then (if (((rd_L1 l0 0).length : Int) : Int).toNat ≤ 281474976710656 then (ramekinref5_Parity.l0 k l0 (List.replicate (((rd_L1 l0 0).length : Int) : Int).toNat 0) (List.replicate (((rd_L1 l0 0).length : Int) : Int).toNat 0) 0) else (none)) else (none)) else (none)) else (some (([] : List Int), ([] : List Int))))) = some (r1, r2) := h
  clear h
  replace H := Option.bind_eq_some_iff.mp H
  obtain ⟨t110, A20, H⟩ := H
  replace H : (if t110 = true then (if 0 < (l0.length : Int) then (if 0 ≤ ((rd_L1 l0 0).length : Int) then (if (((rd_L1 l0 0).length : Int) : Int).toNat ≤ 281474976710656 then (ramekinref5_Parity.l0 k l0 (List.replicate (((rd_L1 l0 0).length : Int) : Int).toNat 0) (List.replicate (((rd_L1 l0 0).length : Int) : Int).toNat 0) 0) else (none)) else (none)) else (none)) else (some (([] : List Int), ([] : List Int)))) = some (r1, r2) := H
  have A2 := Aside0.mk A20
  clear A20
  by_cases c3 : t110 = true
  · subst c3
    have H1 : (if 0 < (l0.length : Int) then (if 0 ≤ ((rd_L1 l0 0).length : Int) then (if (((rd_L1 l0 0).length : Int) : Int).toNat ≤ 281474976710656 then (ramekinref5_Parity.l0 k l0 (List.replicate (((rd_L1 l0 0).length : Int) : Int).toNat 0) (List.replicate (((rd_L1 l0 0).length : Int) : Int).toNat 0) 0) else (none)) else (none)) else (none)) = some (r1, r2) := by rw [if_pos rfl] at H; exact H
    clear H
    have H := H1
    clear H1
    by_cases c4 : 0 < (l0.length : Int)
    · rw [if_pos c4] at H
      have c4b0 : decide (0 < (l0.length : Int)) = true := decide_eq_true c4
      have c4b1 : decide (0 < l0.length) = true := decide_eq_true (by omega)
      clear c4
      by_cases c5 : 0 ≤ ((rd_L1 l0 0).length : Int)
      · rw [if_pos c5] at H
        have c5b0 := eq_true c5
        have c5b1 : decide (0 ≤ ((rd_L1 l0 0).length : Int)) = true := decide_eq_true c5
        clear c5
        by_cases c6 : (((rd_L1 l0 0).length : Int) : Int).toNat ≤ 281474976710656
        · rw [if_pos c6] at H
          have c6b0 := eq_true c6
          have c6b1 : decide ((((rd_L1 l0 0).length : Int) : Int).toNat ≤ 281474976710656) = true := decide_eq_true c6
          clear c6
          obtain ⟨y112, hy112⟩ : ∃ y_ : List Int, y_ = (List.replicate (((rd_L1 l0 0).length : Int) : Int).toNat 0) := ⟨_, rfl⟩
          replace H : (ramekinref5_Parity.l0 k l0 y112 (List.replicate (((rd_L1 l0 0).length : Int) : Int).toNat 0) 0) = some (r1, r2) := by first | (rw [hy112]; with_reducible exact H) | (have H2_ := (Option.bind_some _ _).symm.trans H; rw [hy112]; with_reducible exact H2_) | (have H2_ := (Option.bind_some _ _).symm.trans H; with_reducible exact H2_) | with_reducible exact H | (rw [hy112]; exact H) | exact H
          have Ny112 := Aside0.mk hy112
          clear hy112
          obtain ⟨y116, hy116⟩ : ∃ y_ : List Int, y_ = (List.replicate (((rd_L1 l0 0).length : Int) : Int).toNat 0) := ⟨_, rfl⟩
          replace H : (ramekinref5_Parity.l0 k l0 y112 y116 0) = some (r1, r2) := by first | (rw [hy116]; with_reducible exact H) | (have H2_ := (Option.bind_some _ _).symm.trans H; rw [hy116]; with_reducible exact H2_) | (have H2_ := (Option.bind_some _ _).symm.trans H; with_reducible exact H2_) | with_reducible exact H | (rw [hy116]; exact H) | exact H
          have Ny116 := Aside0.mk hy116
          clear hy116
          have H' := Aside0.mk H
          clear H
          go_enter Try.func34, Try.ntmps34
          try go_wp2_with (first | ((with_reducible refine gate_callee (f := 39) rfl ?_); refine goesL_ (some 10) rfl rfl Try.func39 (by kernel_rfl) rfl #[.slice A0 l0.length c0, .int .i64 2, .int .i64 14] rfl (by (try simp only [List.map_toArray, List.map_cons, List.map_nil]); first | done | rfl | (simp only [List.length_drop, List.length_take]; rfl)) ?_; (with_reducible refine (ramekinref5_even.calls _ _ l0 2 14 true _ ?side1 ?side2 A2.out).mono ?_); (case side1 => repeat (first | exact HR0.out | (with_reducible refine Kd.C_alloc ?_ _) | (with_reducible refine Kd.C_drewN ?_ _) | (with_reducible refine Kd.C_drew ?_))); (case side2 => exact HC0.out); rintro e w7 ⟨rfl, hb⟩; refine ⟨_, rfl, ?_⟩; have n0_ := Aside0.mk (below_step (by repeat (first | (with_reducible first | exact HB.out | apply below_alloc | apply pw_below_drewN | apply below_drew1) | exact HB.out)) hb); clear HB; have HB := n0_; clear n0_; (try clear hb); (try clear hb2); (try clear hk); (try clear hi)))
          have n0_ := Aside0.mk (below_drew1 HB.out)
          clear HB
          have HB := n0_
          clear n0_
          have p111 : 0 ≤ (0 : Int) := (by omega)
          have q111 : 0 < (l0.length : Int) := of_decide_eq_true (by first | (with_reducible assumption) | assumption)
          obtain ⟨ad111, A111_0, c111_0, e111, hx111_0, hl111_0, hi111_0⟩ := at_L1 HR0.out 0 p111 q111
          have hw111_0 := hx111_0
          (try rw [show ((0 : Int)).toNat = 0 from rfl] at hw111_0)
          (try rw [show 0 * 1 = 0 from rfl] at hw111_0)
          (try rw [Addr.add_zero'] at hw111_0)
          cases e111
          have qi111 : (0 < l0.length) = True := eq_true (by omega)
          (try rw [show ((0 : Int)).toNat = 0 from rfl] at hx111_0)
          (try rw [Addr.add_zero'] at hx111_0)
          replace hx111_0 := (HB.out.cell (World.block_lt_of_cell? w _ hx111_0)).trans hx111_0
          have HR111_0 := Aside0.mk hi111_0
          have HC111_0 := Aside0.mk hl111_0
          clear hi111_0 hl111_0
          replace p111 := eq_true p111
          replace q111 := eq_true q111
          have p115 : 0 ≤ (0 : Int) := (by omega)
          have q115 : 0 < (l0.length : Int) := of_decide_eq_true (by first | (with_reducible assumption) | assumption)
          obtain ⟨ad115, A115_0, c115_0, e115, hx115_0, hl115_0, hi115_0⟩ := at_L1 HR0.out 0 p115 q115
          have hw115_0 := hx115_0
          (try rw [show ((0 : Int)).toNat = 0 from rfl] at hw115_0)
          (try rw [show 0 * 1 = 0 from rfl] at hw115_0)
          (try rw [Addr.add_zero'] at hw115_0)
          obtain rfl : ad111 = ad115 := (by injection e115)
          have qi115 : (0 < l0.length) = True := eq_true (by omega)
          (try rw [show ((0 : Int)).toNat = 0 from rfl] at hx115_0)
          (try rw [Addr.add_zero'] at hx115_0)
          replace hx115_0 := (HB.out.cell (World.block_lt_of_cell? w _ hx115_0)).trans hx115_0
          have HR115_0 := Aside0.mk hi115_0
          have HC115_0 := Aside0.mk hl115_0
          clear hi115_0 hl115_0
          replace p115 := eq_true p115
          replace q115 := eq_true q115
          have ea_ := Option.some.inj (hx111_0.symm.trans hx115_0)
          injection ea_ with ea_ en_ ec_
          subst ea_
          subst ec_
          clear en_
          refine start_ (n := 12) (S := fun w' => w'.cell? ad111 = some (.slice A111_0 (rd_L1 l0 0).length c111_0) ∧ w'.cell? ad111 = some (.slice A111_0 (rd_L1 l0 0).length c111_0)) (ds := []) #[false, false, false, false, false, false, false, false, false, false, false, false] (by kernel_rfl) rfl rfl ⟨((HB.out.cell (World.block_lt_of_cell? w _ hw111_0)).trans hw111_0), ((HB.out.cell (World.block_lt_of_cell? w _ hw115_0)).trans hw115_0)⟩ (fun hHeld => ?_); refine with_tabW ramekinref5_Parity.tab3 ramekinref5_Parity.bits3 (fun HT_ HW_ => ?_)
          generalize w7.drew = w8 at HB HR111_0 HR115_0 hx111_0 hx115_0 hHeld ⊢
          refine pure_ (i := 0) (N := some 12) (v := ?_) (a' := ?_) #[true, false, false, false, false, false, false, false, false, false, false, false] rfl rfl (any_of HT_.out (by kernel_rfl)) (fun _ _ _ h => h) (Or.inl ⟨by rfl, ?_⟩) ?_ ?_
          rotate_left
          · intro w'
            go_simp
            with_reducible rfl
          rotate_left
          · simp only [Act.put, List.setIfInBounds_toArray, List.set_cons_zero, List.set_cons_succ, i64_w, i32_w]
            rfl
          refine pure_ (i := 1) (N := some 13) (v := ?_) (a' := ?_) #[true, true, false, false, false, false, false, false, false, false, false, false] rfl rfl (any_of HT_.out (by kernel_rfl)) (fun _ _ _ h => h) (Or.inl ⟨by rfl, ?_⟩) ?_ ?_
          rotate_left
          · intro w'
            go_simp
            with_reducible rfl
          rotate_left
          · simp only [Act.put, List.setIfInBounds_toArray, List.set_cons_zero, List.set_cons_succ, i64_w, i32_w]
            rfl
          refine pure_ (i := 5) (N := some 17) (v := ?_) (a' := ?_) #[true, true, false, false, false, true, false, false, false, false, false, false] rfl rfl (any_of HT_.out (by kernel_rfl)) (fun _ _ _ h => h) (Or.inl ⟨by rfl, ?_⟩) ?_ ?_
          rotate_left
          · intro w'
            go_simp
            with_reducible rfl
          rotate_left
          · simp only [Act.put, List.setIfInBounds_toArray, List.set_cons_zero, List.set_cons_succ, i64_w, i32_w]
            rfl
          refine pure_ (i := 6) (N := some 18) (v := ?_) (a' := ?_) #[true, true, false, false, false, true, true, false, false, false, false, false] rfl rfl (any_of HT_.out (by kernel_rfl)) (fun _ _ _ h => h) (Or.inl ⟨by rfl, ?_⟩) ?_ ?_
          rotate_left
          · intro w'
            go_simp
            with_reducible rfl
          rotate_left
          · simp only [Act.put, List.setIfInBounds_toArray, List.set_cons_zero, List.set_cons_succ, i64_w, i32_w]
            rfl
          refine take_ (i := 2) (N := some 14) (v := ?_) (a' := ?_) #[true, true, true, false, false, true, true, false, false, false, false, false] rfl rfl (take_ofW HT_.out HW_.out (by kernel_rfl)) (fun _ _ _ h => h) (Or.inl ⟨by rfl, ?_⟩) hHeld ?_ ?_
          rotate_left
          · rintro w' ⟨s0, s1⟩
            go_simp
            with_reducible rfl
          rotate_left
          · simp only [Act.put, List.setIfInBounds_toArray, List.set_cons_zero, List.set_cons_succ, i64_w, i32_w]
            rfl
          refine pure_ (i := 3) (N := some 15) (v := ?_) (a' := ?_) #[true, true, true, true, false, true, true, false, false, false, false, false] rfl rfl (any_of HT_.out (by kernel_rfl)) (fun _ _ _ h => h) (Or.inl ⟨by rfl, ?_⟩) ?_ ?_
          rotate_left
          · intro w'
            go_simp
            with_reducible rfl
          rotate_left
          · simp only [Act.put, List.setIfInBounds_toArray, List.set_cons_zero, List.set_cons_succ, i64_w, i32_w]
            rfl
          refine take_ (i := 7) (N := some 19) (v := ?_) (a' := ?_) #[true, true, true, true, false, true, true, true, false, false, false, false] rfl rfl (take_ofW HT_.out HW_.out (by kernel_rfl)) (fun _ _ _ h => h) (Or.inl ⟨by rfl, ?_⟩) hHeld ?_ ?_
          rotate_left
          · rintro w' ⟨s0, s1⟩
            go_simp
            with_reducible rfl
          rotate_left
          · simp only [Act.put, List.setIfInBounds_toArray, List.set_cons_zero, List.set_cons_succ, i64_w, i32_w]
            rfl
          refine pure_ (i := 8) (N := some 20) (v := ?_) (a' := ?_) #[true, true, true, true, false, true, true, true, true, false, false, false] rfl rfl (any_of HT_.out (by kernel_rfl)) (fun _ _ _ h => h) (Or.inl ⟨by rfl, ?_⟩) ?_ ?_
          rotate_left
          · intro w'
            go_simp
            with_reducible rfl
          rotate_left
          · simp only [Act.put, List.setIfInBounds_toArray, List.set_cons_zero, List.set_cons_succ, i64_w, i32_w]
            rfl
          refine join_ (σ := Value × Value) 1 #[true, true, true, true, true, true, true, true, true, true, true, false] (fun s_ => [(16, s_.1), (21, s_.2), (4, s_.1)]) (fun s_ w' => (w'.cell? ad111 = some (.slice A111_0 (rd_L1 l0 0).length c111_0) ∧ w'.cell? ad111 = some (.slice A111_0 (rd_L1 l0 0).length c111_0)) ∧ (Kd.R (Kd.int .u8) 5 w' w.heap.size (fun k_ => some k_ ≠ (s_.2 : Value).ownBlock) s_.1 y112) ∧ (Kd.R (Kd.int .u8) 5 w' w.heap.size (fun k_ => some k_ ≠ (s_.1 : Value).ownBlock) s_.2 y116) ∧ (Below w.heap.size w w')) ?_ ?_
          rotate_left
          · intro hCont
            refine two_ (i := 4) (j := 9) (Ni := some 16) (Nj := some 21) #[true, true, true, true, true, true, true, true, true, false, false, false] #[true, true, true, true, false, true, true, true, true, true, false, false] rfl rfl rfl rfl (two_of HT_.out (by kernel_rfl)) (by decide) (by decide) (fun K hK => ?_) (fun K hK => ?_)
            · skip
              refine Kd.R_make_step (Kd.int .u8) _ 5 (by rfl) (N := 16) rfl 47 _ _ rfl ((rd_L1 l0 0).length : Int) rfl rfl Try.underlying47 (.int .u8 0) 1 info5 rfl (by decide) (by omega) 0 (ok := fun _ => True) (okp := fun _ => True) rfl (fun _ hk => hk) trivial (of_decide_eq_true (by first | (with_reducible assumption) | assumption)) (Nat.le_trans (Nat.mul_le_mul_right _ (of_decide_eq_true (by first | (with_reducible assumption) | assumption) : ((rd_L1 l0 0).length : Int).toNat ≤ 281474976710656)) (by omega)) (Below.refl _ _) (Nat.le_refl _) ?_
              intro v113 w9 ho10 hb hg_ hnew_
              clear hg_ hnew_
              (first | rw [← Ny112.out] at ho10 | (simp only [Int.reduceToNat] at ho10; rw [← Ny112.out] at ho10))
              have n0_ := Aside0.mk (Kd.R_lower ho10 (below_size (by repeat (first | (with_reducible first | exact HB.out | apply below_alloc | apply pw_below_drewN | apply below_drew1) | exact HB.out))))
              have n1_ := Aside0.mk (below_step (by repeat (first | (with_reducible first | exact HB.out | apply below_alloc | apply pw_below_drewN | apply below_drew1) | exact HB.out)) hb)
              clear HB
              have HO114 := n0_
              have HB := n1_
              clear n0_ n1_
              clear hb ho10
              refine hK.out _ _ ⟨((HB.out.cell (World.block_lt_of_cell? w _ hw111_0)).trans hw111_0), ((HB.out.cell (World.block_lt_of_cell? w _ hw115_0)).trans hw115_0)⟩ (fun hHeld => ?_)
              clear hK K
              refine norm_ (a' := ?_) ?_ ?_
              rotate_left
              · show Act.put _ (some 16) _ = _
                simp only [Act.put, List.setIfInBounds_toArray, List.set_cons_zero, List.set_cons_succ, i64_w, i32_w]
                rfl
              refine pure_ (i := 10) (N := some 4) (v := ?_) (a' := ?_) #[true, true, true, true, true, true, true, true, true, false, true, false] rfl rfl (any_of HT_.out (by kernel_rfl)) (fun _ _ _ h => h) (Or.inl ⟨by rfl, ?_⟩) ?_ ?_
              rotate_left
              · intro w'
                go_simp
                with_reducible rfl
              rotate_left
              · simp only [Act.put, List.setIfInBounds_toArray, List.set_cons_zero, List.set_cons_succ, i64_w, i32_w]
                rfl
              refine one_ (i := 9) (N := some 21) #[true, true, true, true, true, true, true, true, true, true, true, false] rfl rfl (one_of HT_.out (by kernel_rfl)) (by decide) (fun K hK => ?_)
              refine Kd.R_make_step (Kd.int .u8) _ 5 (by rfl) (N := 21) rfl 47 _ _ rfl ((rd_L1 l0 0).length : Int) rfl rfl Try.underlying47 (.int .u8 0) 1 info5 rfl (by decide) (by omega) 0 (ok := fun _ => True) (okp := fun _ => True) rfl (fun _ hk => hk) trivial (of_decide_eq_true (by first | (with_reducible assumption) | assumption)) (Nat.le_trans (Nat.mul_le_mul_right _ (of_decide_eq_true (by first | (with_reducible assumption) | assumption) : ((rd_L1 l0 0).length : Int).toNat ≤ 281474976710656)) (by omega)) (Below.refl _ _) (Nat.le_refl _) ?_
              intro v117 w11 ho12 hb hg_ hnew_
              clear hg_ hnew_
              (first | rw [← Ny116.out] at ho12 | (simp only [Int.reduceToNat] at ho12; rw [← Ny116.out] at ho12))
              have n0_ := Aside0.mk (Kd.R_elder' (by (with_reducible repeat (first | apply Kd.R_alloc | apply Kd.R_drewN | apply Kd.R_drew)); exact HO114.out) (Kd.R_base ho12) hb)
              have n1_ := Aside0.mk (Kd.R_lower (Kd.R_new' ho12 (Kd.R_lt (by (with_reducible repeat (first | apply Kd.R_alloc | apply Kd.R_drewN | apply Kd.R_drew)); exact HO114.out))) (below_size (by repeat (first | (with_reducible first | exact HB.out | apply below_alloc | apply pw_below_drewN | apply below_drew1) | exact HB.out))))
              have n2_ := Aside0.mk (below_step (by repeat (first | (with_reducible first | exact HB.out | apply below_alloc | apply pw_below_drewN | apply below_drew1) | exact HB.out)) hb)
              clear HO114
              clear HB
              have HO114 := n0_
              have HO118 := n1_
              have HB := n2_
              clear n0_ n1_ n2_
              clear hb ho12
              refine hK.out _ _ ⟨((HB.out.cell (World.block_lt_of_cell? w _ hw111_0)).trans hw111_0), ((HB.out.cell (World.block_lt_of_cell? w _ hw115_0)).trans hw115_0)⟩ (fun hHeld => ?_)
              clear hK K
              refine norm_ (a' := ?_) ?_ ?_
              rotate_left
              · show Act.put _ (some 21) _ = _
                simp only [Act.put, List.setIfInBounds_toArray, List.set_cons_zero, List.set_cons_succ, i64_w, i32_w]
                rfl
              exact norm_ (by simp only [putAll, Act.put, List.setIfInBounds_toArray, List.set_cons_zero, List.set_cons_succ]) (hCont (v113, v117) _ ⟨hHeld, (by (with_reducible repeat (first | apply Kd.R_alloc | apply Kd.R_drewN | apply Kd.R_drew)); exact Kd.R_mono HO114.out (fun _ hk => hk.2)), (by (with_reducible repeat (first | apply Kd.R_alloc | apply Kd.R_drewN | apply Kd.R_drew)); exact Kd.R_mono HO118.out (fun _ hk => hk.2)), (by repeat (first | (with_reducible first | exact HB.out | apply below_alloc | apply pw_below_drewN | apply below_drew1) | exact HB.out))⟩)
            · skip
              refine Kd.R_make_step (Kd.int .u8) _ 5 (by rfl) (N := 21) rfl 47 _ _ rfl ((rd_L1 l0 0).length : Int) rfl rfl Try.underlying47 (.int .u8 0) 1 info5 rfl (by decide) (by omega) 0 (ok := fun _ => True) (okp := fun _ => True) rfl (fun _ hk => hk) trivial (of_decide_eq_true (by first | (with_reducible assumption) | assumption)) (Nat.le_trans (Nat.mul_le_mul_right _ (of_decide_eq_true (by first | (with_reducible assumption) | assumption) : ((rd_L1 l0 0).length : Int).toNat ≤ 281474976710656)) (by omega)) (Below.refl _ _) (Nat.le_refl _) ?_
              intro v117 w9 ho10 hb hg_ hnew_
              clear hg_ hnew_
              (first | rw [← Ny116.out] at ho10 | (simp only [Int.reduceToNat] at ho10; rw [← Ny116.out] at ho10))
              have n0_ := Aside0.mk (Kd.R_lower ho10 (below_size (by repeat (first | (with_reducible first | exact HB.out | apply below_alloc | apply pw_below_drewN | apply below_drew1) | exact HB.out))))
              have n1_ := Aside0.mk (below_step (by repeat (first | (with_reducible first | exact HB.out | apply below_alloc | apply pw_below_drewN | apply below_drew1) | exact HB.out)) hb)
              clear HB
              have HO118 := n0_
              have HB := n1_
              clear n0_ n1_
              clear hb ho10
              refine hK.out _ _ ⟨((HB.out.cell (World.block_lt_of_cell? w _ hw111_0)).trans hw111_0), ((HB.out.cell (World.block_lt_of_cell? w _ hw115_0)).trans hw115_0)⟩ (fun hHeld => ?_)
              clear hK K
              refine norm_ (a' := ?_) ?_ ?_
              rotate_left
              · show Act.put _ (some 21) _ = _
                simp only [Act.put, List.setIfInBounds_toArray, List.set_cons_zero, List.set_cons_succ, i64_w, i32_w]
                rfl
              refine one_ (i := 4) (N := some 16) #[true, true, true, true, true, true, true, true, true, true, false, false] rfl rfl (one_of HT_.out (by kernel_rfl)) (by decide) (fun K hK => ?_)
              refine Kd.R_make_step (Kd.int .u8) _ 5 (by rfl) (N := 16) rfl 47 _ _ rfl ((rd_L1 l0 0).length : Int) rfl rfl Try.underlying47 (.int .u8 0) 1 info5 rfl (by decide) (by omega) 0 (ok := fun _ => True) (okp := fun _ => True) rfl (fun _ hk => hk) trivial (of_decide_eq_true (by first | (with_reducible assumption) | assumption)) (Nat.le_trans (Nat.mul_le_mul_right _ (of_decide_eq_true (by first | (with_reducible assumption) | assumption) : ((rd_L1 l0 0).length : Int).toNat ≤ 281474976710656)) (by omega)) (Below.refl _ _) (Nat.le_refl _) ?_
              intro v113 w11 ho12 hb hg_ hnew_
              clear hg_ hnew_
              (first | rw [← Ny112.out] at ho12 | (simp only [Int.reduceToNat] at ho12; rw [← Ny112.out] at ho12))
              have n0_ := Aside0.mk (Kd.R_elder' (by (with_reducible repeat (first | apply Kd.R_alloc | apply Kd.R_drewN | apply Kd.R_drew)); exact HO118.out) (Kd.R_base ho12) hb)
              have n1_ := Aside0.mk (Kd.R_lower (Kd.R_new' ho12 (Kd.R_lt (by (with_reducible repeat (first | apply Kd.R_alloc | apply Kd.R_drewN | apply Kd.R_drew)); exact HO118.out))) (below_size (by repeat (first | (with_reducible first | exact HB.out | apply below_alloc | apply pw_below_drewN | apply below_drew1) | exact HB.out))))
              have n2_ := Aside0.mk (below_step (by repeat (first | (with_reducible first | exact HB.out | apply below_alloc | apply pw_below_drewN | apply below_drew1) | exact HB.out)) hb)
              clear HO118
              clear HB
              have HO118 := n0_
              have HO114 := n1_
              have HB := n2_
              clear n0_ n1_ n2_
              clear hb ho12
              refine hK.out _ _ ⟨((HB.out.cell (World.block_lt_of_cell? w _ hw111_0)).trans hw111_0), ((HB.out.cell (World.block_lt_of_cell? w _ hw115_0)).trans hw115_0)⟩ (fun hHeld => ?_)
              clear hK K
              refine norm_ (a' := ?_) ?_ ?_
              rotate_left
              · show Act.put _ (some 16) _ = _
                simp only [Act.put, List.setIfInBounds_toArray, List.set_cons_zero, List.set_cons_succ, i64_w, i32_w]
                rfl
              refine pure_ (i := 10) (N := some 4) (v := ?_) (a' := ?_) #[true, true, true, true, true, true, true, true, true, true, true, false] rfl rfl (any_of HT_.out (by kernel_rfl)) (fun _ _ _ h => h) (Or.inl ⟨by rfl, ?_⟩) ?_ ?_
              rotate_left
              · intro w'
                go_simp
                with_reducible rfl
              rotate_left
              · simp only [Act.put, List.setIfInBounds_toArray, List.set_cons_zero, List.set_cons_succ, i64_w, i32_w]
                rfl
              exact norm_ (by simp only [putAll, Act.put, List.setIfInBounds_toArray, List.set_cons_zero, List.set_cons_succ]) (hCont (v113, v117) _ ⟨hHeld, (by (with_reducible repeat (first | apply Kd.R_alloc | apply Kd.R_drewN | apply Kd.R_drew)); exact Kd.R_mono HO114.out (fun _ hk => hk.2)), (by (with_reducible repeat (first | apply Kd.R_alloc | apply Kd.R_drewN | apply Kd.R_drew)); exact Kd.R_mono HO118.out (fun _ hk => hk.2)), (by repeat (first | (with_reducible first | exact HB.out | apply below_alloc | apply pw_below_drewN | apply below_drew1) | exact HB.out))⟩)
          rintro ⟨v113, v117⟩ w13 ⟨hS_, h0_, h1_, h2_⟩
          have n0_ : Aside0 (Kd.R (Kd.int .u8) 5 w13 w.heap.size (fun k_ => some k_ ≠ (v117 : Value).ownBlock) v113 y112) := ⟨h0_⟩
          have n1_ : Aside0 (Kd.R (Kd.int .u8) 5 w13 w.heap.size (fun k_ => some k_ ≠ (v113 : Value).ownBlock) v117 y116) := ⟨h1_⟩
          have n2_ : Aside0 (Below w.heap.size w w13) := ⟨h2_⟩
          clear HB
          clear h0_ h1_ h2_
          have HO114 := n0_
          have HO118 := n1_
          have HB := n2_
          clear n0_ n1_ n2_
          have hHeld : w13.cell? ad111 = some (.slice A111_0 (rd_L1 l0 0).length c111_0) ∧ w13.cell? ad111 = some (.slice A111_0 (rd_L1 l0 0).length c111_0) := hS_
          refine norm_ (a' := ?_) ?_ ?_
          rotate_left
          · simp only [putAll, Act.put, List.setIfInBounds_toArray, List.set_cons_zero, List.set_cons_succ]
            rfl
          refine pure_ (i := 11) (N := some 5) (v := ?_) (a' := ?_) #[true, true, true, true, true, true, true, true, true, true, true, true] rfl rfl (any_of HT_.out (by kernel_rfl)) (fun _ _ _ h => h) (Or.inl ⟨by rfl, ?_⟩) ?_ ?_
          rotate_left
          · intro w'
            go_simp
            with_reducible rfl
          rotate_left
          · simp only [Act.put, List.setIfInBounds_toArray, List.set_cons_zero, List.set_cons_succ, i64_w, i32_w]
            rfl
          refine done_ (done_of HT_.out (by kernel_rfl)) ?_
          try go_wp2
          go_loopg [6] k (fun kq v6 w' => ∃ (x4_1 : List Int) (x5_1 : List Int) (x6_1 : Int), v6 = .int .i64 x6_1 ∧ Aside0 (ramekinref5_Parity.l0 kq l0 x4_1 x5_1 x6_1 = some (r1, r2)) ∧ Aside0 (kq ≤ k) ∧ Aside0 (Kd.R (Kd.int .u8) 5 w' w.heap.size (fun k_ => some k_ ≠ (v117 : Value).ownBlock) v113 x4_1) ∧ Aside0 (Kd.R (Kd.int .u8) 5 w' w.heap.size (fun k_ => some k_ ≠ (v113 : Value).ownBlock) v117 x5_1) ∧ Aside0 (Below w.heap.size w w'))
          case atStart => exact ⟨(y112), (y116), (0), (by first | rfl | (simp; done) | (simp [*]; done)), H', ⟨Nat.le_refl _⟩, ⟨by (with_reducible repeat (first | apply Kd.R_alloc | apply Kd.R_drewN | apply Kd.R_drew)); exact HO114.out⟩, ⟨by (with_reducible repeat (first | apply Kd.R_alloc | apply Kd.R_drewN | apply Kd.R_drew)); exact HO118.out⟩, ⟨by repeat (first | (with_reducible first | exact HB.out | apply below_alloc | apply pw_below_drewN | apply below_drew1) | exact HB.out)⟩⟩
          case round =>
            clear H'
            try clear c1
            try clear p1
            try clear q1
            try clear hx1
            try clear qi1
            try clear p2
            try clear c3
            try clear c4
            try clear c4b0
            try clear c4b1
            try clear c5
            try clear c5b0
            try clear c5b1
            try clear c6
            try clear c6b0
            try clear c6b1
            try clear c11
            try clear p11
            try clear q11
            try clear hx11
            try clear qi11
            try clear hx111_0
            try clear hx115_0
            try clear p111
            try clear p115
            try clear q111
            try clear q115
            obtain ⟨x4_1, x5_1, x6_1, rfl, HA, HK1, HO_4, HO_5, HB⟩ := hrel
            cases gk with
            | zero => exact absurd HA.out (by simp [ramekinref5_Parity.l0])
            | succ k1 =>
              have H := HA.out
              clear HA
              simp only [ramekinref5_Parity.l0] at H
              by_cases c14 : x6_1 < (l0.length : Int)
              · rw [if_pos c14] at H
                have c14b0 : decide (x6_1 < (l0.length : Int)) = true := decide_eq_true c14
                clear c14
                replace H := Option.bind_eq_some_iff.mp H
                obtain ⟨t119, A150, H⟩ := H
                replace H : (ramekinref5_Parity.l1 k1 l0 x4_1 x5_1 x6_1 t119 0) = some (r1, r2) := H
                have A15 := Aside0.mk A150
                clear A150
                have H' := Aside0.mk H
                clear H
                go_wp2_with (first | ((with_reducible refine gate_callee (f := 55) rfl ?_); refine goesL_ (some 29) rfl rfl Try.func55 (by kernel_rfl) rfl #[.int .i64 x6_1] rfl (by (try simp only [List.map_toArray, List.map_cons, List.map_nil]); first | done | rfl | (simp only [List.length_drop, List.length_take]; rfl)) ?_; (with_reducible refine (ramekinref2_Exp.calls x6_1 t119 _ A15.out).mono ?_); rintro e w16 ⟨rfl, hb⟩; refine ⟨_, rfl, ?_⟩; have n0_ := Aside0.mk (Kd.R_below (by (with_reducible repeat (first | apply Kd.R_alloc | apply Kd.R_drewN | apply Kd.R_drew)); exact HO_4.out) hb); have n1_ := Aside0.mk (Kd.R_below (by (with_reducible repeat (first | apply Kd.R_alloc | apply Kd.R_drewN | apply Kd.R_drew)); exact HO_5.out) hb); have n2_ := Aside0.mk (below_step (by repeat (first | (with_reducible first | exact HB.out | apply below_alloc | apply pw_below_drewN | apply below_drew1) | exact HB.out)) hb); clear HO_4; clear HO_5; clear HB; have HO_4 := n0_; have HO_5 := n1_; have HB := n2_; clear n0_ n1_ n2_; (try clear hb); (try clear hb2); (try clear hk); (try clear hi)))
                go_loopg [8] k1 (fun kq v8 w' => ∃ (x4_2 : List Int) (x5_2 : List Int) (x8_2 : Int), v8 = .int .i64 x8_2 ∧ Aside0 (ramekinref5_Parity.l1 kq l0 x4_2 x5_2 x6_1 t119 x8_2 = some (r1, r2)) ∧ Aside0 (kq ≤ k1) ∧ Aside0 (Kd.R (Kd.int .u8) 5 w' w.heap.size (fun k_ => some k_ ≠ (v117 : Value).ownBlock) v113 x4_2) ∧ Aside0 (Kd.R (Kd.int .u8) 5 w' w.heap.size (fun k_ => some k_ ≠ (v113 : Value).ownBlock) v117 x5_2) ∧ Aside0 (Below w.heap.size w w'))
                case atStart => exact ⟨(x4_1), (x5_1), (0), (by first | rfl | (simp; done) | (simp [*]; done)), H', ⟨Nat.le_refl _⟩, ⟨by (with_reducible repeat (first | apply Kd.R_alloc | apply Kd.R_drewN | apply Kd.R_drew)); exact HO_4.out⟩, ⟨by (with_reducible repeat (first | apply Kd.R_alloc | apply Kd.R_drewN | apply Kd.R_drew)); exact HO_5.out⟩, ⟨by repeat (first | (with_reducible first | exact HB.out | apply below_alloc | apply pw_below_drewN | apply below_drew1) | exact HB.out)⟩⟩
                case round =>
                  clear H'
                  try clear c1
                  try clear p1
                  try clear q1
                  try clear hx1
                  try clear qi1
                  try clear p2
                  try clear c3
                  try clear c4
                  try clear c4b0
                  try clear c4b1
                  try clear c5
                  try clear c5b0
                  try clear c5b1
                  try clear c6
                  try clear c6b0
                  try clear c6b1
                  try clear c11
                  try clear p11
                  try clear q11
                  try clear hx11
                  try clear qi11
                  try clear c14
                  try clear c14b0
                  try clear hx111_0
                  try clear hx115_0
                  try clear p1
                  try clear p11
                  try clear p111
                  try clear p115
                  try clear p2
                  try clear q1
                  try clear q11
                  try clear q111
                  try clear q115
                  obtain ⟨x4_2, x5_2, x8_2, rfl, HA, HK2, HO_4, HO_5, HB⟩ := hrel
                  cases gk with
                  | zero => exact absurd HA.out (by simp [ramekinref5_Parity.l1])
                  | succ k2 =>
                    have H := HA.out
                    clear HA
                    simp only [ramekinref5_Parity.l1] at H
                    by_cases c17 : 0 ≤ x6_1
                    · rw [if_pos c17] at H
                      have c17b0 : decide (0 ≤ x6_1) = true := decide_eq_true c17
                      clear c17
                      by_cases c18 : x6_1 < (l0.length : Int)
                      · rw [if_pos c18] at H
                        have c18b0 : decide (x6_1 < (l0.length : Int)) = true := decide_eq_true c18
                        clear c18
                        by_cases c19 : x8_2 < ((rd_L1 l0 x6_1).length : Int)
                        · rw [if_pos c19] at H
                          have c19b0 : decide (x8_2 < ((rd_L1 l0 x6_1).length : Int)) = true := decide_eq_true c19
                          clear c19
                          by_cases c20 : 0 ≤ x8_2
                          · rw [if_pos c20] at H
                            have c20b0 : decide (0 ≤ x8_2) = true := decide_eq_true c20
                            clear c20
                            by_cases c21 : x8_2 < (x4_2.length : Int)
                            · rw [if_pos c21] at H
                              have c21b0 : decide (x8_2 < (x4_2.length : Int)) = true := decide_eq_true c21
                              clear c21
                              obtain ⟨y124, hy124⟩ : ∃ y_ : List Int, y_ = (x4_2.set (x8_2 : Int).toNat (Go.bits .xor .u8 (rd x4_2 x8_2) (rd (rd_L1 l0 x6_1) x8_2))) := ⟨_, rfl⟩
                              replace H : (if x8_2 < (x5_2.length : Int) then ((ramekinref2_Mul.f t119 (rd (rd_L1 l0 x6_1) x8_2)).bind fun t128 => (ramekinref5_Parity.l1 k2 l0 y124 (x5_2.set (x8_2 : Int).toNat (Go.bits .xor .u8 (rd x5_2 x8_2) t128)) x6_1 t119 (wrap64 (x8_2 + 1)))) else (none)) = some (r1, r2) := by first | (rw [hy124]; with_reducible exact H) | (have H2_ := (Option.bind_some _ _).symm.trans H; rw [hy124]; with_reducible exact H2_) | (have H2_ := (Option.bind_some _ _).symm.trans H; with_reducible exact H2_) | with_reducible exact H | (rw [hy124]; exact H) | exact H
                              have Ny124 := Aside0.mk hy124
                              clear hy124
                              by_cases c23 : x8_2 < (x5_2.length : Int)
                              · rw [if_pos c23] at H
                                have c23b0 : decide (x8_2 < (x5_2.length : Int)) = true := decide_eq_true c23
                                clear c23
                                replace H := Option.bind_eq_some_iff.mp H
                                obtain ⟨t128, A240, H⟩ := H
                                replace H : (ramekinref5_Parity.l1 k2 l0 y124 (x5_2.set (x8_2 : Int).toNat (Go.bits .xor .u8 (rd x5_2 x8_2) t128)) x6_1 t119 (wrap64 (x8_2 + 1))) = some (r1, r2) := H
                                have A24 := Aside0.mk A240
                                clear A240
                                obtain ⟨y129, hy129⟩ : ∃ y_ : List Int, y_ = (x5_2.set (x8_2 : Int).toNat (Go.bits .xor .u8 (rd x5_2 x8_2) t128)) := ⟨_, rfl⟩
                                replace H : (ramekinref5_Parity.l1 k2 l0 y124 y129 x6_1 t119 (wrap64 (x8_2 + 1))) = some (r1, r2) := by first | (rw [hy129]; with_reducible exact H) | (have H2_ := (Option.bind_some _ _).symm.trans H; rw [hy129]; with_reducible exact H2_) | (have H2_ := (Option.bind_some _ _).symm.trans H; with_reducible exact H2_) | with_reducible exact H | (rw [hy129]; exact H) | exact H
                                have Ny129 := Aside0.mk hy129
                                clear hy129
                                have H' := Aside0.mk H
                                clear H
                                have p120 : 0 ≤ (x6_1 : Int) := of_decide_eq_true (by first | (with_reducible assumption) | assumption)
                                have q120 : x6_1 < (l0.length : Int) := of_decide_eq_true (by first | (with_reducible assumption) | assumption)
                                obtain ⟨ad120, A120_0, c120_0, e120, hx120_0, hl120_0, hi120_0⟩ := at_L1 HR0.out x6_1 p120 q120
                                obtain rfl : ad111 = ad120 := (by injection e120)
                                replace hx120_0 := (HB.out.cell (World.block_lt_of_cell? w _ hx120_0)).trans hx120_0
                                have HR120_0 := Aside0.mk hi120_0
                                have HC120_0 := Aside0.mk hl120_0
                                clear hi120_0 hl120_0
                                replace p120 := eq_true p120
                                replace q120 := eq_true q120
                                try go_wp2
                                have n0_ := Aside0.mk (Kd.R_drew HO_4.out)
                                have n1_ := Aside0.mk (Kd.R_drew HO_5.out)
                                have n2_ := Aside0.mk (below_drew1 HB.out)
                                clear HO_4
                                clear HO_5
                                clear HB
                                have HO_4 := n0_
                                have HO_5 := n1_
                                have HB := n2_
                                clear n0_ n1_ n2_
                                obtain ⟨Ao27, co27, eo27⟩ := Kd.R_slice HO_4.out
                                (first | subst eo27 | (injection eo27 with f1_ f2_ f3_; have f4_ := f1_.symm; have f5_ := f3_.symm; clear f1_ f2_ f3_; subst f4_; subst f5_))
                                have p121 : 0 ≤ (x8_2 : Int) := of_decide_eq_true (by first | (with_reducible assumption) | assumption)
                                have q121 : x8_2 < (x4_2.length : Int) := of_decide_eq_true (by first | (with_reducible assumption) | assumption)
                                obtain ⟨ad121, e121, hx121_0⟩ := Kd.at_int (Kd.R_reads' HO_4.out).2.2 x8_2 p121 q121
                                cases e121
                                replace p121 := eq_true p121
                                replace q121 := eq_true q121
                                have p122 : 0 ≤ (x6_1 : Int) := of_decide_eq_true (by first | (with_reducible assumption) | assumption)
                                have q122 : x6_1 < (l0.length : Int) := of_decide_eq_true (by first | (with_reducible assumption) | assumption)
                                obtain ⟨ad122, A122_0, c122_0, e122, hx122_0, hl122_0, hi122_0⟩ := at_L1 HR0.out x6_1 p122 q122
                                have hw122_0 := hx122_0
                                obtain rfl : ad111 = ad122 := (by injection e122)
                                replace hx122_0 := (HB.out.cell (World.block_lt_of_cell? w _ hx122_0)).trans hx122_0
                                have HR122_0 := Aside0.mk hi122_0
                                have HC122_0 := Aside0.mk hl122_0
                                clear hi122_0 hl122_0
                                replace p122 := eq_true p122
                                replace q122 := eq_true q122
                                have p123 : 0 ≤ (x8_2 : Int) := of_decide_eq_true (by first | (with_reducible assumption) | assumption)
                                have q123 : x8_2 < ((rd_L1 l0 x6_1).length : Int) := of_decide_eq_true (by first | (with_reducible assumption) | assumption)
                                obtain ⟨ad123, e123, hx123_0⟩ := Kd.at_int HR122_0.out x8_2 p123 q123
                                have hw123_0 := hx123_0
                                cases e123
                                replace hx123_0 := (HB.out.cell (World.block_lt_of_cell? w _ hx123_0)).trans hx123_0
                                replace p123 := eq_true p123
                                replace q123 := eq_true q123
                                have p22 : 0 ≤ (x8_2 : Int) := of_decide_eq_true (by first | (with_reducible assumption) | assumption)
                                have q22 : (x8_2 : Int) < ((x4_2.length : Int) : Int) := of_decide_eq_true (by first | (with_reducible assumption) | assumption)
                                obtain ⟨go22, co22, eo22, gb22, gl22, cl22, HG22⟩ := Kd.R_form HO_4.out (by omega)
                                (first | cases eo22 | (injection eo22 with ea_ en_ ec_; (first | subst ea_ | (injection ea_ with ea_; subst ea_)); subst ec_; clear en_))
                                have GB22 := Aside0.mk gb22
                                have GG22 := Aside0.mk HG22
                                clear gb22 gl22 HG22
                                (first | simp only [add_plain] at hx121_0 | skip)
                                obtain ⟨hx22_0, hf22_0⟩ := Kd.R_celln 0 HO_4.out (x8_2 : Int) p22 q22
                                replace p22 := eq_true p22
                                replace q22 := eq_true q22
                                have HP28 := Kd.R_putn HO_4.out (x8_2 : Int) (Go.bits .xor .u8 (rd x4_2 x8_2) (rd (rd_L1 l0 x6_1) x8_2))
                                rw [← Ny124.out] at HP28
                                have HQ28 := Aside0.mk HP28
                                clear HP28
                                refine start_ (n := 16) (S := fun w' => w'.cell? ⟨go22, (x8_2).toNat, none⟩ = some (.int .u8 (rd x4_2 x8_2)) ∧ w'.cell? (ad111.add (x6_1).toNat) = some (.slice (some ad123) (rd_L1 l0 x6_1).length c122_0) ∧ w'.cell? (ad123.add (x8_2).toNat) = some (.int .u8 (rd (rd_L1 l0 x6_1) x8_2))) (ds := [15]) #[false, false, false, false, false, false, false, false, false, false, false, false, false, false, false, false] (by kernel_rfl) rfl rfl ⟨hx121_0, ((HB.out.cell (World.block_lt_of_cell? w _ hw122_0)).trans hw122_0), ((HB.out.cell (World.block_lt_of_cell? w _ hw123_0)).trans hw123_0)⟩ (fun hHeld => ?_); refine with_tabW ramekinref5_Parity.tab11 ramekinref5_Parity.bits11 (fun HT_ HW_ => ?_)
                                generalize wr.drew = w26 at HO_4 HO_5 HB GG22 HQ28 HR122_0 hf22_0 hx121_0 hx122_0 hx123_0 hx22_0 hHeld ⊢
                                refine pure_ (i := 0) (N := some 39) (v := ?_) (a' := ?_) #[true, false, false, false, false, false, false, false, false, false, false, false, false, false, false, false] rfl rfl (any_of HT_.out (by kernel_rfl)) (fun _ _ _ h => h) (Or.inl ⟨by rfl, ?_⟩) ?_ ?_
                                rotate_left
                                · intro w'
                                  go_simp
                                  with_reducible rfl
                                rotate_left
                                · simp only [Act.put, List.setIfInBounds_toArray, List.set_cons_zero, List.set_cons_succ, i64_w, i32_w]
                                  rfl
                                refine pure_ (i := 1) (N := some 40) (v := ?_) (a' := ?_) #[true, true, false, false, false, false, false, false, false, false, false, false, false, false, false, false] rfl rfl (any_of HT_.out (by kernel_rfl)) (fun _ _ _ h => h) (Or.inl ⟨by rfl, ?_⟩) ?_ ?_
                                rotate_left
                                · intro w'
                                  go_simp
                                  with_reducible rfl
                                rotate_left
                                · simp only [Act.put, List.setIfInBounds_toArray, List.set_cons_zero, List.set_cons_succ, i64_w, i32_w]
                                  rfl
                                refine pure_ (i := 2) (N := some 41) (v := ?_) (a' := ?_) #[true, true, true, false, false, false, false, false, false, false, false, false, false, false, false, false] rfl rfl (any_of HT_.out (by kernel_rfl)) (fun _ _ _ h => h) (Or.inl ⟨by rfl, ?_⟩) ?_ ?_
                                rotate_left
                                · intro w'
                                  go_simp
                                  with_reducible rfl
                                rotate_left
                                · simp only [Act.put, List.setIfInBounds_toArray, List.set_cons_zero, List.set_cons_succ, i64_w, i32_w]
                                  rfl
                                refine pure_ (i := 3) (N := some 42) (v := ?_) (a' := ?_) #[true, true, true, true, false, false, false, false, false, false, false, false, false, false, false, false] rfl rfl (any_of HT_.out (by kernel_rfl)) (fun _ _ _ h => h) (Or.inl ⟨by rfl, ?_⟩) ?_ ?_
                                rotate_left
                                · intro w'
                                  go_simp
                                  with_reducible rfl
                                rotate_left
                                · simp only [Act.put, List.setIfInBounds_toArray, List.set_cons_zero, List.set_cons_succ, i64_w, i32_w]
                                  rfl
                                refine pure_ (i := 4) (N := some 43) (v := ?_) (a' := ?_) #[true, true, true, true, true, false, false, false, false, false, false, false, false, false, false, false] rfl rfl (any_of HT_.out (by kernel_rfl)) (fun _ _ _ h => h) (Or.inl ⟨by rfl, ?_⟩) ?_ ?_
                                rotate_left
                                · intro w'
                                  go_simp
                                  with_reducible rfl
                                rotate_left
                                · simp only [Act.put, List.setIfInBounds_toArray, List.set_cons_zero, List.set_cons_succ, i64_w, i32_w]
                                  rfl
                                refine pure_ (i := 6) (N := some 45) (v := ?_) (a' := ?_) #[true, true, true, true, true, false, true, false, false, false, false, false, false, false, false, false] rfl rfl (any_of HT_.out (by kernel_rfl)) (fun _ _ _ h => h) (Or.inl ⟨by rfl, ?_⟩) ?_ ?_
                                rotate_left
                                · intro w'
                                  go_simp
                                  with_reducible rfl
                                rotate_left
                                · simp only [Act.put, List.setIfInBounds_toArray, List.set_cons_zero, List.set_cons_succ, i64_w, i32_w]
                                  rfl
                                refine pure_ (i := 7) (N := some 46) (v := ?_) (a' := ?_) #[true, true, true, true, true, false, true, true, false, false, false, false, false, false, false, false] rfl rfl (any_of HT_.out (by kernel_rfl)) (fun _ _ _ h => h) (Or.inl ⟨by rfl, ?_⟩) ?_ ?_
                                rotate_left
                                · intro w'
                                  go_simp
                                  with_reducible rfl
                                rotate_left
                                · simp only [Act.put, List.setIfInBounds_toArray, List.set_cons_zero, List.set_cons_succ, i64_w, i32_w]
                                  rfl
                                refine pure_ (i := 8) (N := some 47) (v := ?_) (a' := ?_) #[true, true, true, true, true, false, true, true, true, false, false, false, false, false, false, false] rfl rfl (any_of HT_.out (by kernel_rfl)) (fun _ _ _ h => h) (Or.inl ⟨by rfl, ?_⟩) ?_ ?_
                                rotate_left
                                · intro w'
                                  go_simp
                                  with_reducible rfl
                                rotate_left
                                · simp only [Act.put, List.setIfInBounds_toArray, List.set_cons_zero, List.set_cons_succ, i64_w, i32_w]
                                  rfl
                                refine pure_ (i := 10) (N := some 49) (v := ?_) (a' := ?_) #[true, true, true, true, true, false, true, true, true, false, true, false, false, false, false, false] rfl rfl (any_of HT_.out (by kernel_rfl)) (fun _ _ _ h => h) (Or.inl ⟨by rfl, ?_⟩) ?_ ?_
                                rotate_left
                                · intro w'
                                  go_simp
                                  with_reducible rfl
                                rotate_left
                                · simp only [Act.put, List.setIfInBounds_toArray, List.set_cons_zero, List.set_cons_succ, i64_w, i32_w]
                                  rfl
                                refine take_ (i := 5) (N := some 44) (v := ?_) (a' := ?_) #[true, true, true, true, true, true, true, true, true, false, true, false, false, false, false, false] rfl rfl (take_ofW HT_.out HW_.out (by kernel_rfl)) (fun _ _ _ h => h) (Or.inl ⟨by rfl, ?_⟩) hHeld ?_ ?_
                                rotate_left
                                · rintro w' ⟨s0, s1, s2⟩
                                  go_simp
                                  with_reducible rfl
                                rotate_left
                                · simp only [Act.put, List.setIfInBounds_toArray, List.set_cons_zero, List.set_cons_succ, i64_w, i32_w]
                                  rfl
                                refine take_ (i := 9) (N := some 48) (v := ?_) (a' := ?_) #[true, true, true, true, true, true, true, true, true, true, true, false, false, false, false, false] rfl rfl (take_ofW HT_.out HW_.out (by kernel_rfl)) (fun _ _ _ h => h) (Or.inl ⟨by rfl, ?_⟩) hHeld ?_ ?_
                                rotate_left
                                · rintro w' ⟨s0, s1, s2⟩
                                  go_simp
                                  with_reducible rfl
                                rotate_left
                                · simp only [Act.put, List.setIfInBounds_toArray, List.set_cons_zero, List.set_cons_succ, i64_w, i32_w]
                                  rfl
                                refine pure_ (i := 11) (N := some 50) (v := ?_) (a' := ?_) #[true, true, true, true, true, true, true, true, true, true, true, true, false, false, false, false] rfl rfl (any_of HT_.out (by kernel_rfl)) (fun _ _ _ h => h) (Or.inl ⟨by rfl, ?_⟩) ?_ ?_
                                rotate_left
                                · intro w'
                                  go_simp
                                  with_reducible rfl
                                rotate_left
                                · simp only [Act.put, List.setIfInBounds_toArray, List.set_cons_zero, List.set_cons_succ, i64_w, i32_w]
                                  rfl
                                refine take_ (i := 12) (N := some 51) (v := ?_) (a' := ?_) #[true, true, true, true, true, true, true, true, true, true, true, true, true, false, false, false] rfl rfl (take_ofW HT_.out HW_.out (by kernel_rfl)) (fun _ _ _ h => h) (Or.inl ⟨by rfl, ?_⟩) hHeld ?_ ?_
                                rotate_left
                                · rintro w' ⟨s0, s1, s2⟩
                                  go_simp
                                  with_reducible rfl
                                rotate_left
                                · simp only [Act.put, List.setIfInBounds_toArray, List.set_cons_zero, List.set_cons_succ, i64_w, i32_w]
                                  rfl
                                refine pure_ (i := 13) (N := some 52) (v := ?_) (a' := ?_) #[true, true, true, true, true, true, true, true, true, true, true, true, true, true, false, false] rfl rfl (any_of HT_.out (by kernel_rfl)) (fun _ _ _ h => h) (Or.inl ⟨by rfl, ?_⟩) ?_ ?_
                                rotate_left
                                · intro w'
                                  go_simp
                                  with_reducible rfl
                                rotate_left
                                · simp only [Act.put, List.setIfInBounds_toArray, List.set_cons_zero, List.set_cons_succ, i64_w, i32_w]
                                  rfl
                                refine pure_ (i := 14) (N := some 53) (v := ?_) (a' := ?_) #[true, true, true, true, true, true, true, true, true, true, true, true, true, true, true, false] rfl rfl (any_of HT_.out (by kernel_rfl)) (fun _ _ _ h => h) (Or.inl ⟨by rfl, ?_⟩) ?_ ?_
                                rotate_left
                                · intro w'
                                  go_simp
                                  with_reducible rfl
                                rotate_left
                                · simp only [Act.put, List.setIfInBounds_toArray, List.set_cons_zero, List.set_cons_succ, i64_w, i32_w]
                                  rfl
                                refine last_ (i := 15) (N := none) #[true, true, true, true, true, true, true, true, true, true, true, true, true, true, true, true] rfl rfl (one_of HT_.out (by kernel_rfl)) (by decide) (fun K hK => ?_)
                                refine skip_ (w1 := ?_) (by rfl) rfl ?_ ?_
                                rotate_left
                                · go_simp
                                  rfl
                                refine hK.out _ _ ?_
                                clear hK K
                                refine done_ (done_of HT_.out (by kernel_rfl)) ?_
                                try go_wp2
                                have n0_ : Aside0 (Kd.R (Kd.int .u8) 5 (w26.setCell ⟨go22, (x8_2 : Int).toNat, none⟩ (.int .u8 (Go.bits .xor .u8 (rd x4_2 x8_2) (rd (rd_L1 l0 x6_1) x8_2)))) w.heap.size (fun k_ => some k_ ≠ (v117 : Value).ownBlock) (.slice (some ⟨go22, 0, none⟩) x4_2.length co27) y124) := ⟨by (with_reducible repeat (first | apply Kd.R_alloc | apply Kd.R_drewN | apply Kd.R_drew)); exact HQ28.out⟩
                                have n1_ : Aside0 (Kd.R (Kd.int .u8) 5 (w26.setCell ⟨go22, (x8_2 : Int).toNat, none⟩ (.int .u8 (Go.bits .xor .u8 (rd x4_2 x8_2) (rd (rd_L1 l0 x6_1) x8_2)))) w.heap.size (fun k_ => some k_ ≠ (.slice (some ⟨go22, 0, none⟩) x4_2.length co27 : Value).ownBlock) v117 x5_2) := ⟨by (with_reducible repeat (first | apply Kd.R_alloc | apply Kd.R_drewN | apply Kd.R_drew)); exact Kd.R_mono (Kd.R_far (p := ⟨go22, (x8_2 : Int).toNat, none⟩) (Kd.R_mono HO_5.out (fun k_ hk => (⟨hk, fun e_ => hk (by rw [e_]; rfl)⟩ : _ ∧ k_ ≠ go22))) (fun _ hk => hk.2) (.int .u8 (Go.bits .xor .u8 (rd x4_2 x8_2) (rd (rd_L1 l0 x6_1) x8_2)))) (fun _ hk => hk.1)⟩
                                have n2_ : Aside0 (Below w.heap.size w (w26.setCell ⟨go22, (x8_2 : Int).toNat, none⟩ (.int .u8 (Go.bits .xor .u8 (rd x4_2 x8_2) (rd (rd_L1 l0 x6_1) x8_2))))) := ⟨by repeat (first | (with_reducible first | exact HB.out | apply below_alloc | apply pw_below_drewN | apply below_drew1 | refine below_set ?_ GB22.out) | exact HB.out)⟩
                                (try clear HO_4)
                                (try clear HO_5)
                                (try clear HB)
                                generalize (w26.setCell ⟨go22, (x8_2 : Int).toNat, none⟩ (.int .u8 (Go.bits .xor .u8 (rd x4_2 x8_2) (rd (rd_L1 l0 x6_1) x8_2)))) = w29 at n0_ n1_ n2_ ⊢
                                have HO_4 := n0_
                                have HO_5 := n1_
                                have HB := n2_
                                clear n0_ n1_ n2_
                                have n0_ := Aside0.mk (Kd.R_drew HO_4.out)
                                have n1_ := Aside0.mk (Kd.R_drew HO_5.out)
                                have n2_ := Aside0.mk (below_drew1 HB.out)
                                clear HO_4
                                clear HO_5
                                clear HB
                                have HO_4 := n0_
                                have HO_5 := n1_
                                have HB := n2_
                                clear n0_ n1_ n2_
                                obtain ⟨Ao31, co31, eo31⟩ := Kd.R_slice HO_5.out
                                (first | subst eo31 | (injection eo31 with f1_ f2_ f3_; have f4_ := f1_.symm; have f5_ := f3_.symm; clear f1_ f2_ f3_; subst f4_; subst f5_))
                                have p125 : 0 ≤ (x8_2 : Int) := of_decide_eq_true (by first | (with_reducible assumption) | assumption)
                                have q125 : x8_2 < (x5_2.length : Int) := of_decide_eq_true (by first | (with_reducible assumption) | assumption)
                                obtain ⟨ad125, e125, hx125_0⟩ := Kd.at_int (Kd.R_reads' HO_5.out).2.2 x8_2 p125 q125
                                cases e125
                                replace p125 := eq_true p125
                                replace q125 := eq_true q125
                                have p126 : 0 ≤ (x6_1 : Int) := of_decide_eq_true (by first | (with_reducible assumption) | assumption)
                                have q126 : x6_1 < (l0.length : Int) := of_decide_eq_true (by first | (with_reducible assumption) | assumption)
                                obtain ⟨ad126, A126_0, c126_0, e126, hx126_0, hl126_0, hi126_0⟩ := at_L1 HR0.out x6_1 p126 q126
                                have hw126_0 := hx126_0
                                obtain rfl : ad111 = ad126 := (by injection e126)
                                replace hx126_0 := (HB.out.cell (World.block_lt_of_cell? w _ hx126_0)).trans hx126_0
                                have HR126_0 := Aside0.mk hi126_0
                                have HC126_0 := Aside0.mk hl126_0
                                clear hi126_0 hl126_0
                                replace p126 := eq_true p126
                                replace q126 := eq_true q126
                                have p127 : 0 ≤ (x8_2 : Int) := of_decide_eq_true (by first | (with_reducible assumption) | assumption)
                                have q127 : x8_2 < ((rd_L1 l0 x6_1).length : Int) := of_decide_eq_true (by first | (with_reducible assumption) | assumption)
                                obtain ⟨ad127, e127, hx127_0⟩ := Kd.at_int HR126_0.out x8_2 p127 q127
                                have hw127_0 := hx127_0
                                cases e127
                                replace hx127_0 := (HB.out.cell (World.block_lt_of_cell? w _ hx127_0)).trans hx127_0
                                replace p127 := eq_true p127
                                replace q127 := eq_true q127
                                refine start_ (n := 18) (S := fun w' => w'.cell? (ad125.add (x8_2).toNat) = some (.int .u8 (rd x5_2 x8_2)) ∧ w'.cell? (ad111.add (x6_1).toNat) = some (.slice (some ad127) (rd_L1 l0 x6_1).length c126_0) ∧ w'.cell? (ad127.add (x8_2).toNat) = some (.int .u8 (rd (rd_L1 l0 x6_1) x8_2))) (ds := [17]) #[false, false, false, false, false, false, false, false, false, false, false, false, false, false, false, false, false, false] (by kernel_rfl) rfl rfl ⟨hx125_0, ((HB.out.cell (World.block_lt_of_cell? w _ hw126_0)).trans hw126_0), ((HB.out.cell (World.block_lt_of_cell? w _ hw127_0)).trans hw127_0)⟩ (fun hHeld => ?_); refine with_tabW ramekinref5_Parity.tab12 ramekinref5_Parity.bits12 (fun HT_ HW_ => ?_)
                                generalize w29.drew = w30 at HO_4 HO_5 HB HQ28 HR126_0 hx125_0 hx126_0 hx127_0 hHeld ⊢
                                refine pure_ (i := 0) (N := some 54) (v := ?_) (a' := ?_) #[true, false, false, false, false, false, false, false, false, false, false, false, false, false, false, false, false, false] rfl rfl (any_of HT_.out (by kernel_rfl)) (fun _ _ _ h => h) (Or.inl ⟨by rfl, ?_⟩) ?_ ?_
                                rotate_left
                                · intro w'
                                  go_simp
                                  with_reducible rfl
                                rotate_left
                                · simp only [Act.put, List.setIfInBounds_toArray, List.set_cons_zero, List.set_cons_succ, i64_w, i32_w]
                                  rfl
                                refine pure_ (i := 1) (N := some 55) (v := ?_) (a' := ?_) #[true, true, false, false, false, false, false, false, false, false, false, false, false, false, false, false, false, false] rfl rfl (any_of HT_.out (by kernel_rfl)) (fun _ _ _ h => h) (Or.inl ⟨by rfl, ?_⟩) ?_ ?_
                                rotate_left
                                · intro w'
                                  go_simp
                                  with_reducible rfl
                                rotate_left
                                · simp only [Act.put, List.setIfInBounds_toArray, List.set_cons_zero, List.set_cons_succ, i64_w, i32_w]
                                  rfl
                                refine pure_ (i := 2) (N := some 56) (v := ?_) (a' := ?_) #[true, true, true, false, false, false, false, false, false, false, false, false, false, false, false, false, false, false] rfl rfl (any_of HT_.out (by kernel_rfl)) (fun _ _ _ h => h) (Or.inl ⟨by rfl, ?_⟩) ?_ ?_
                                rotate_left
                                · intro w'
                                  go_simp
                                  with_reducible rfl
                                rotate_left
                                · simp only [Act.put, List.setIfInBounds_toArray, List.set_cons_zero, List.set_cons_succ, i64_w, i32_w]
                                  rfl
                                refine pure_ (i := 3) (N := some 57) (v := ?_) (a' := ?_) #[true, true, true, true, false, false, false, false, false, false, false, false, false, false, false, false, false, false] rfl rfl (any_of HT_.out (by kernel_rfl)) (fun _ _ _ h => h) (Or.inl ⟨by rfl, ?_⟩) ?_ ?_
                                rotate_left
                                · intro w'
                                  go_simp
                                  with_reducible rfl
                                rotate_left
                                · simp only [Act.put, List.setIfInBounds_toArray, List.set_cons_zero, List.set_cons_succ, i64_w, i32_w]
                                  rfl
                                refine pure_ (i := 4) (N := some 58) (v := ?_) (a' := ?_) #[true, true, true, true, true, false, false, false, false, false, false, false, false, false, false, false, false, false] rfl rfl (any_of HT_.out (by kernel_rfl)) (fun _ _ _ h => h) (Or.inl ⟨by rfl, ?_⟩) ?_ ?_
                                rotate_left
                                · intro w'
                                  go_simp
                                  with_reducible rfl
                                rotate_left
                                · simp only [Act.put, List.setIfInBounds_toArray, List.set_cons_zero, List.set_cons_succ, i64_w, i32_w]
                                  rfl
                                refine pure_ (i := 6) (N := some 60) (v := ?_) (a' := ?_) #[true, true, true, true, true, false, true, false, false, false, false, false, false, false, false, false, false, false] rfl rfl (any_of HT_.out (by kernel_rfl)) (fun _ _ _ h => h) (Or.inl ⟨by rfl, ?_⟩) ?_ ?_
                                rotate_left
                                · intro w'
                                  go_simp
                                  with_reducible rfl
                                rotate_left
                                · simp only [Act.put, List.setIfInBounds_toArray, List.set_cons_zero, List.set_cons_succ, i64_w, i32_w]
                                  rfl
                                refine pure_ (i := 7) (N := some 61) (v := ?_) (a' := ?_) #[true, true, true, true, true, false, true, true, false, false, false, false, false, false, false, false, false, false] rfl rfl (any_of HT_.out (by kernel_rfl)) (fun _ _ _ h => h) (Or.inl ⟨by rfl, ?_⟩) ?_ ?_
                                rotate_left
                                · intro w'
                                  go_simp
                                  with_reducible rfl
                                rotate_left
                                · simp only [Act.put, List.setIfInBounds_toArray, List.set_cons_zero, List.set_cons_succ, i64_w, i32_w]
                                  rfl
                                refine pure_ (i := 8) (N := some 62) (v := ?_) (a' := ?_) #[true, true, true, true, true, false, true, true, true, false, false, false, false, false, false, false, false, false] rfl rfl (any_of HT_.out (by kernel_rfl)) (fun _ _ _ h => h) (Or.inl ⟨by rfl, ?_⟩) ?_ ?_
                                rotate_left
                                · intro w'
                                  go_simp
                                  with_reducible rfl
                                rotate_left
                                · simp only [Act.put, List.setIfInBounds_toArray, List.set_cons_zero, List.set_cons_succ, i64_w, i32_w]
                                  rfl
                                refine pure_ (i := 9) (N := some 63) (v := ?_) (a' := ?_) #[true, true, true, true, true, false, true, true, true, true, false, false, false, false, false, false, false, false] rfl rfl (any_of HT_.out (by kernel_rfl)) (fun _ _ _ h => h) (Or.inl ⟨by rfl, ?_⟩) ?_ ?_
                                rotate_left
                                · intro w'
                                  go_simp
                                  with_reducible rfl
                                rotate_left
                                · simp only [Act.put, List.setIfInBounds_toArray, List.set_cons_zero, List.set_cons_succ, i64_w, i32_w]
                                  rfl
                                refine pure_ (i := 11) (N := some 65) (v := ?_) (a' := ?_) #[true, true, true, true, true, false, true, true, true, true, false, true, false, false, false, false, false, false] rfl rfl (any_of HT_.out (by kernel_rfl)) (fun _ _ _ h => h) (Or.inl ⟨by rfl, ?_⟩) ?_ ?_
                                rotate_left
                                · intro w'
                                  go_simp
                                  with_reducible rfl
                                rotate_left
                                · simp only [Act.put, List.setIfInBounds_toArray, List.set_cons_zero, List.set_cons_succ, i64_w, i32_w]
                                  rfl
                                refine take_ (i := 5) (N := some 59) (v := ?_) (a' := ?_) #[true, true, true, true, true, true, true, true, true, true, false, true, false, false, false, false, false, false] rfl rfl (take_ofW HT_.out HW_.out (by kernel_rfl)) (fun _ _ _ h => h) (Or.inl ⟨by rfl, ?_⟩) hHeld ?_ ?_
                                rotate_left
                                · rintro w' ⟨s0, s1, s2⟩
                                  go_simp
                                  with_reducible rfl
                                rotate_left
                                · simp only [Act.put, List.setIfInBounds_toArray, List.set_cons_zero, List.set_cons_succ, i64_w, i32_w]
                                  rfl
                                refine take_ (i := 10) (N := some 64) (v := ?_) (a' := ?_) #[true, true, true, true, true, true, true, true, true, true, true, true, false, false, false, false, false, false] rfl rfl (take_ofW HT_.out HW_.out (by kernel_rfl)) (fun _ _ _ h => h) (Or.inl ⟨by rfl, ?_⟩) hHeld ?_ ?_
                                rotate_left
                                · rintro w' ⟨s0, s1, s2⟩
                                  go_simp
                                  with_reducible rfl
                                rotate_left
                                · simp only [Act.put, List.setIfInBounds_toArray, List.set_cons_zero, List.set_cons_succ, i64_w, i32_w]
                                  rfl
                                refine pure_ (i := 12) (N := some 66) (v := ?_) (a' := ?_) #[true, true, true, true, true, true, true, true, true, true, true, true, true, false, false, false, false, false] rfl rfl (any_of HT_.out (by kernel_rfl)) (fun _ _ _ h => h) (Or.inl ⟨by rfl, ?_⟩) ?_ ?_
                                rotate_left
                                · intro w'
                                  go_simp
                                  with_reducible rfl
                                rotate_left
                                · simp only [Act.put, List.setIfInBounds_toArray, List.set_cons_zero, List.set_cons_succ, i64_w, i32_w]
                                  rfl
                                refine take_ (i := 13) (N := some 67) (v := ?_) (a' := ?_) #[true, true, true, true, true, true, true, true, true, true, true, true, true, true, false, false, false, false] rfl rfl (take_ofW HT_.out HW_.out (by kernel_rfl)) (fun _ _ _ h => h) (Or.inl ⟨by rfl, ?_⟩) hHeld ?_ ?_
                                rotate_left
                                · rintro w' ⟨s0, s1, s2⟩
                                  go_simp
                                  with_reducible rfl
                                rotate_left
                                · simp only [Act.put, List.setIfInBounds_toArray, List.set_cons_zero, List.set_cons_succ, i64_w, i32_w]
                                  rfl
                                refine one_ (i := 14) (N := some 68) #[true, true, true, true, true, true, true, true, true, true, true, true, true, true, true, false, false, false] rfl rfl (one_of HT_.out (by kernel_rfl)) (by decide) (fun K hK => ?_)
                                refine goes_ Try.func56 (by kernel_rfl) rfl #[.int .u8 t119, .int .u8 (rd (rd_L1 l0 x6_1) x8_2)] (by rfl) rfl rfl (by (try simp only [List.map_toArray, List.map_cons, List.map_nil]); first | done | rfl | (simp only [List.length_drop, List.length_take]; rfl)) ?_
                                with_reducible refine (ramekinref2_Mul.calls t119 (rd (rd_L1 l0 x6_1) x8_2) t128 _ A24.out).mono ?_
                                rintro e w32 ⟨rfl, hb⟩
                                have HS0_ := (hb.cell (World.block_lt_of_cell? _ _ (hHeld.1))).trans (hHeld.1)
                                refine ⟨_, rfl, ?_⟩
                                have n0_ := Aside0.mk (Kd.R_below (by (with_reducible repeat (first | apply Kd.R_alloc | apply Kd.R_drewN | apply Kd.R_drew)); exact HO_4.out) hb)
                                have n1_ := Aside0.mk (Kd.R_below (by (with_reducible repeat (first | apply Kd.R_alloc | apply Kd.R_drewN | apply Kd.R_drew)); exact HO_5.out) hb)
                                have n2_ := Aside0.mk (below_step (by repeat (first | (with_reducible first | exact HB.out | apply below_alloc | apply pw_below_drewN | apply below_drew1) | exact HB.out)) hb)
                                clear HO_4
                                clear HO_5
                                clear HB
                                have HO_4 := n0_
                                have HO_5 := n1_
                                have HB := n2_
                                clear n0_ n1_ n2_
                                (try clear hb)
                                (try clear hb2)
                                (try clear hk)
                                (try clear hi)
                                have p25 : 0 ≤ (x8_2 : Int) := of_decide_eq_true (by first | (with_reducible assumption) | assumption)
                                have q25 : (x8_2 : Int) < ((x5_2.length : Int) : Int) := of_decide_eq_true (by first | (with_reducible assumption) | assumption)
                                obtain ⟨go25, co25, eo25, gb25, gl25, cl25, HG25⟩ := Kd.R_form HO_5.out (by omega)
                                (first | cases eo25 | (injection eo25 with ea_ en_ ec_; (first | subst ea_ | (injection ea_ with ea_; subst ea_)); subst ec_; clear en_))
                                have GB25 := Aside0.mk gb25
                                have GG25 := Aside0.mk HG25
                                clear gb25 gl25 HG25
                                (first | simp only [add_plain] at hx125_0 | skip)
                                obtain ⟨hx25_0, hf25_0⟩ := Kd.R_celln 0 HO_5.out (x8_2 : Int) p25 q25
                                replace p25 := eq_true p25
                                replace q25 := eq_true q25
                                have HP33 := Kd.R_putn HO_5.out (x8_2 : Int) (Go.bits .xor .u8 (rd x5_2 x8_2) t128)
                                rw [← Ny129.out] at HP33
                                have HQ33 := Aside0.mk HP33
                                clear HP33
                                refine hK.out _ _ ⟨HS0_, ((HB.out.cell (World.block_lt_of_cell? w _ hw126_0)).trans hw126_0), ((HB.out.cell (World.block_lt_of_cell? w _ hw127_0)).trans hw127_0)⟩ (fun hHeld => ?_)
                                clear hK K
                                refine norm_ (a' := ?_) ?_ ?_
                                rotate_left
                                · show Act.put _ (some 68) _ = _
                                  simp only [Act.put, List.setIfInBounds_toArray, List.set_cons_zero, List.set_cons_succ, i64_w, i32_w]
                                  rfl
                                refine pure_ (i := 15) (N := some 69) (v := ?_) (a' := ?_) #[true, true, true, true, true, true, true, true, true, true, true, true, true, true, true, true, false, false] rfl rfl (any_of HT_.out (by kernel_rfl)) (fun _ _ _ h => h) (Or.inl ⟨by rfl, ?_⟩) ?_ ?_
                                rotate_left
                                · intro w'
                                  go_simp
                                  with_reducible rfl
                                rotate_left
                                · simp only [Act.put, List.setIfInBounds_toArray, List.set_cons_zero, List.set_cons_succ, i64_w, i32_w]
                                  rfl
                                refine pure_ (i := 16) (N := some 70) (v := ?_) (a' := ?_) #[true, true, true, true, true, true, true, true, true, true, true, true, true, true, true, true, true, false] rfl rfl (any_of HT_.out (by kernel_rfl)) (fun _ _ _ h => h) (Or.inl ⟨by rfl, ?_⟩) ?_ ?_
                                rotate_left
                                · intro w'
                                  go_simp
                                  with_reducible rfl
                                rotate_left
                                · simp only [Act.put, List.setIfInBounds_toArray, List.set_cons_zero, List.set_cons_succ, i64_w, i32_w]
                                  rfl
                                refine last_ (i := 17) (N := none) #[true, true, true, true, true, true, true, true, true, true, true, true, true, true, true, true, true, true] rfl rfl (one_of HT_.out (by kernel_rfl)) (by decide) (fun K hK => ?_)
                                refine skip_ (w1 := ?_) (by rfl) rfl ?_ ?_
                                rotate_left
                                · go_simp
                                  rfl
                                refine hK.out _ _ ?_
                                clear hK K
                                refine done_ (done_of HT_.out (by kernel_rfl)) ?_
                                try go_wp2
                                go_roundg k2
                                case measure => have := HK1.out; have := HK2.out; omega
                                case rel => exact ⟨(y124), (y129), (wrap64 (x8_2 + 1)), (by first | rfl | (simp; done) | (simp [*]; done)), H', ⟨by have := HK1.out; have := HK2.out; omega⟩, ⟨by (with_reducible repeat (first | apply Kd.R_alloc | apply Kd.R_drewN | apply Kd.R_drew)); exact Kd.R_mono (Kd.R_far (p := ⟨go25, (x8_2 : Int).toNat, none⟩) (Kd.R_mono HO_4.out (fun k_ hk => (⟨hk, fun e_ => hk (by rw [e_]; rfl)⟩ : _ ∧ k_ ≠ go25))) (fun _ hk => hk.2) (.int .u8 (Go.bits .xor .u8 (rd x5_2 x8_2) t128))) (fun _ hk => hk.1)⟩, ⟨by (with_reducible repeat (first | apply Kd.R_alloc | apply Kd.R_drewN | apply Kd.R_drew)); exact HQ33.out⟩, ⟨by repeat (first | (with_reducible first | exact HB.out | apply below_alloc | apply pw_below_drewN | apply below_drew1 | refine below_set ?_ GB25.out) | exact HB.out)⟩⟩
                              · rw [if_neg c23] at H
                                exact absurd H (by simp)
                            · rw [if_neg c21] at H
                              exact absurd H (by simp)
                          · rw [if_neg c20] at H
                            exact absurd H (by simp)
                        · rw [if_neg c19] at H
                          have c19b0 : decide (x8_2 < ((rd_L1 l0 x6_1).length : Int)) = false := decide_eq_false c19
                          clear c19
                          have H' := Aside0.mk H
                          clear H
                          have p120 : 0 ≤ (x6_1 : Int) := of_decide_eq_true (by first | (with_reducible assumption) | assumption)
                          have q120 : x6_1 < (l0.length : Int) := of_decide_eq_true (by first | (with_reducible assumption) | assumption)
                          obtain ⟨ad120, A120_0, c120_0, e120, hx120_0, hl120_0, hi120_0⟩ := at_L1 HR0.out x6_1 p120 q120
                          obtain rfl : ad111 = ad120 := (by injection e120)
                          replace hx120_0 := (HB.out.cell (World.block_lt_of_cell? w _ hx120_0)).trans hx120_0
                          have HR120_0 := Aside0.mk hi120_0
                          have HC120_0 := Aside0.mk hl120_0
                          clear hi120_0 hl120_0
                          replace p120 := eq_true p120
                          replace q120 := eq_true q120
                          go_wp2
                          go_roundg k2
                          case measure => have := HK1.out; have := HK2.out; omega
                          case rel => exact ⟨(x4_2), (x5_2), (wrap64 (x6_1 + 1)), (by first | rfl | (simp; done) | (simp [*]; done)), H', ⟨by have := HK1.out; have := HK2.out; omega⟩, ⟨by (with_reducible repeat (first | apply Kd.R_alloc | apply Kd.R_drewN | apply Kd.R_drew)); exact HO_4.out⟩, ⟨by (with_reducible repeat (first | apply Kd.R_alloc | apply Kd.R_drewN | apply Kd.R_drew)); exact HO_5.out⟩, ⟨by repeat (first | (with_reducible first | exact HB.out | apply below_alloc | apply pw_below_drewN | apply below_drew1) | exact HB.out)⟩⟩
                      · rw [if_neg c18] at H
                        exact absurd H (by simp)
                    · rw [if_neg c17] at H
                      exact absurd H (by simp)
              · rw [if_neg c14] at H
                have c14b0 : decide (x6_1 < (l0.length : Int)) = false := decide_eq_false c14
                clear c14
                simp only [Option.some.injEq, Prod.mk.injEq] at H
                obtain ⟨rfl, rfl⟩ := H
                go_wp2
                go_ret2
                exact ⟨_, _, by first | rfl | (simp [errW_none, errW_some] <;> rfl) | (simp [*, errW_none, errW_some] <;> rfl), by (with_reducible repeat (first | apply Kd.R_alloc | apply Kd.R_drewN | apply Kd.R_drew)); exact HO_4.out, by (with_reducible repeat (first | apply Kd.R_alloc | apply Kd.R_drewN | apply Kd.R_drew)); exact HO_5.out, by repeat (first | (with_reducible first | exact HB.out | apply below_alloc | apply pw_below_drewN | apply below_drew1) | exact HB.out)⟩
        · rw [if_neg c6] at H
          exact absurd H (by simp)
      · rw [if_neg c5] at H
        exact absurd H (by simp)
    · rw [if_neg c4] at H
      exact absurd H (by simp)
  · replace c3 := Bool.eq_false_iff.mpr c3
    subst c3
    have H1 : (some (([] : List Int), ([] : List Int))) = some (r1, r2) := by rw [if_neg (show ¬ (false = true) by decide)] at H; exact H
    clear H
    have H := H1
    clear H1
    simp only [Option.some.injEq, Prod.mk.injEq] at H
    obtain ⟨rfl, rfl⟩ := H
    go_enter Try.func34, Try.ntmps34
    go_wp2_with (first | ((with_reducible refine gate_callee (f := 39) rfl ?_); refine goesL_ (some 10) rfl rfl Try.func39 (by kernel_rfl) rfl #[.slice A0 l0.length c0, .int .i64 2, .int .i64 14] rfl (by (try simp only [List.map_toArray, List.map_cons, List.map_nil]); first | done | rfl | (simp only [List.length_drop, List.length_take]; rfl)) ?_; (with_reducible refine (ramekinref5_even.calls _ _ l0 2 14 false _ ?side1 ?side2 A2.out).mono ?_); (case side1 => repeat (first | exact HR0.out | (with_reducible refine Kd.C_alloc ?_ _) | (with_reducible refine Kd.C_drewN ?_ _) | (with_reducible refine Kd.C_drew ?_))); (case side2 => exact HC0.out); rintro e w34 ⟨rfl, hb⟩; refine ⟨_, rfl, ?_⟩; have n0_ := Aside0.mk (below_step (by repeat (first | (with_reducible first | exact HB.out | apply below_alloc | apply pw_below_drewN | apply below_drew1) | exact HB.out)) hb); clear HB; have HB := n0_; clear n0_; (try clear hb); (try clear hb2); (try clear hk); (try clear hi)))
    go_ret2
    exact ⟨_, _, by first | rfl | (simp [errW_none, errW_some] <;> rfl) | (simp [*, errW_none, errW_some] <;> rfl), by first | exact Kd.R_nil _ _ _ _ _ | exact Kd.N_nil _ _ _ _ _ | exact Kd.V_nil _ _ _ _ _ | exact Kd.Q_nil _ _ _ _ _ | exact Kd.S_nil _ _ _ _ _, by first | exact Kd.R_nil _ _ _ _ _ | exact Kd.N_nil _ _ _ _ _ | exact Kd.V_nil _ _ _ _ _ | exact Kd.Q_nil _ _ _ _ _ | exact Kd.S_nil _ _ _ _ _, by repeat (first | (with_reducible first | exact HB.out | apply below_alloc | apply pw_below_drewN | apply below_drew1) | exact HB.out)⟩
end Go.Proofs.Ytibileffpgnjhaa.PRr
namespace Go.Proofs.Ytibileffpgnjhaa.PRr
open Go.RowKit Go.Proofs.YtibileffpgnjhaaW.PrintWords Go.Proofs.YtibileffpgnjhaaW.PrintLast Go.Proofs.YtibileffpgnjhaaW.PrintMore
attribute [local go_sem] max2_int min2_int max_two min_two max_three min_three max_four min_four -- for this text's walks alone
set_option linter.unusedVariables false
set_option linter.unusedSimpArgs false
noncomputable def rs_Parity.f (l0 : List (List Int)) : Option (List Int × List Int) := Lim.lim (fun k_ => PRq.rs_Parity.f k_ l0)
theorem rs_Parity.calls (A0 : Option Addr) (c0 : Nat) (l0 : List (List Int)) (r1 : List Int) (r2 : List Int) (w : World) (hr0 : Kd.C (Kd.slice 5 (Kd.int .u8)) w A0 l0.length l0) (hc0 : l0.length ≤ c0) (h : rs_Parity.f l0 = some (r1, r2)) :
    Calls Try.prog 30 #[.slice A0 l0.length c0] w fun e w' => ∃ v0_ v1_ : Value, e = .returned (.tuple #[v0_, v1_]) ∧ Kd.R (Kd.int .u8) 5 w' w.heap.size (fun k_ => some k_ ≠ (v1_ : Value).ownBlock) v0_ r1 ∧ Kd.R (Kd.int .u8) 5 w' w.heap.size (fun k_ => some k_ ≠ (v0_ : Value).ownBlock) v1_ r2 ∧ Below w.heap.size w w' := by
  obtain ⟨k_, hk_⟩ := Lim.lim_some h
  first
  | exact PRq.rs_Parity.calls k_ A0 c0 l0 r1 r2 w hr0 hc0 hk_
  | exact (PRq.rs_Parity.calls k_ A0 c0 l0 r1 r2 w hr0 hc0 hk_).mono (fun _ _ h_ => ⟨h_.1, Lim.below_of_drewN h_.2⟩)
noncomputable def rs_alike.l0 : Nat → Int → List (List Int) → Int → Int → Option (Int × Bool)
  | 0, _, _, _, _ => none
  | k + 1, x4, x7, x8, x9 => if x9 < x8 then (if 0 ≤ x9 then (if x9 < (x7.length : Int) then (if x9 > 0 then (if ((rd_L1 x7 x9).length : Int) = x4 then (rs_alike.l0 k ((rd_L1 x7 x9).length : Int) x7 x8 (wrap64 (x9 + 1))) else (some (0, false))) else (rs_alike.l0 k ((rd_L1 x7 x9).length : Int) x7 x8 (wrap64 (x9 + 1)))) else (none)) else (none)) else (some (x4, true))
noncomputable def rs_alike.f (k : Nat) (l0 : List (List Int)) : Option (Int × Bool) := rs_alike.l0 k 0 l0 (l0.length : Int) 0
set_option maxHeartbeats 8000000 in
set_option maxRecDepth 100000 in
theorem rs_alike.calls (k : Nat) (A0 : Option Addr) (c0 : Nat) (l0 : List (List Int)) (r1 : Int) (r2 : Bool) (w : World) (hr0 : Kd.C (Kd.slice 5 (Kd.int .u8)) w A0 l0.length l0) (hc0 : l0.length ≤ c0) (h : rs_alike.f k l0 = some (r1, r2)) :
    Calls Try.prog 50 #[.slice A0 l0.length c0] w fun e w' => e = .returned (.tuple #[.int .i64 r1, .bool r2]) ∧ Drawn0 w w' := by
  have HR0 := Aside0.mk hr0
  have HC0 := Aside0.mk hc0
  clear hr0 hc0
  have H : (rs_alike.l0 k 0 l0 (l0.length : Int) 0) = some (r1, r2) := h
  clear h
  have H' := Aside0.mk H
  clear H
  go_enter Try.func50, Try.ntmps50
  go_wp2
  go_loopg [4, 9] k (fun kq v4 v9 w' => ∃ (x4_1 : Int) (x9_1 : Int), v4 = .int .i64 x4_1 ∧ v9 = .int .i64 x9_1 ∧ Aside0 (rs_alike.l0 kq x4_1 l0 (l0.length : Int) x9_1 = some (r1, r2)) ∧ Aside0 (kq ≤ k) ∧ Drawn0 w w')
  case atStart => exact ⟨(0), (0), (by first | rfl | (simp; done) | (simp [*]; done)), (by first | rfl | (simp; done) | (simp [*]; done)), H', ⟨Nat.le_refl _⟩, by repeat (first | exact Drawn0.refl _ | apply Drawn0.step)⟩
  case round =>
    clear H'
    obtain ⟨x4_1, x9_1, rfl, rfl, HA, HK1, ⟨m1, rfl⟩⟩ := hrel
    cases gk with
    | zero => exact absurd HA.out (by simp [rs_alike.l0])
    | succ k1 =>
      have H := HA.out
      clear HA
      simp only [rs_alike.l0] at H
      by_cases c2 : x9_1 < (l0.length : Int)
      · rw [if_pos c2] at H
        have c2b0 : decide (x9_1 < (l0.length : Int)) = true := decide_eq_true c2
        clear c2
        by_cases c3 : 0 ≤ x9_1
        · rw [if_pos c3] at H
          have c3b0 : decide (0 ≤ x9_1) = true := decide_eq_true c3
          clear c3
          by_cases c4 : x9_1 < (l0.length : Int)
          · rw [if_pos c4] at H
            have c4b0 : decide (x9_1 < (l0.length : Int)) = true := decide_eq_true c4
            clear c4
            by_cases c5 : x9_1 > 0
            · rw [if_pos c5] at H
              have c5b0 : decide (0 < x9_1) = true := decide_eq_true c5
              clear c5
              by_cases c6 : ((rd_L1 l0 x9_1).length : Int) = x4_1
              · rw [if_pos c6] at H
                have c6b0 : (((rd_L1 l0 x9_1).length : Int) == x4_1) = true := beq_iff_eq.mpr c6
                have c6b1 : (((rd_L1 l0 x9_1).length : Int) != x4_1) = false := bne_eq_false_iff_eq.mpr c6
                clear c6
                have H' := Aside0.mk H
                clear H
                have p136 : 0 ≤ (x9_1 : Int) := of_decide_eq_true (by first | (with_reducible assumption) | assumption)
                have q136 : x9_1 < (l0.length : Int) := of_decide_eq_true (by first | (with_reducible assumption) | assumption)
                obtain ⟨ad136, A136_0, c136_0, e136, hx136_0, hl136_0, hi136_0⟩ := at_L1 HR0.out x9_1 p136 q136
                cases e136
                have HR136_0 := Aside0.mk hi136_0
                have HC136_0 := Aside0.mk hl136_0
                clear hi136_0 hl136_0
                replace p136 := eq_true p136
                replace q136 := eq_true q136
                go_wp2
                go_roundg k1
                case measure => have := HK1.out; omega
                case rel => exact ⟨(((rd_L1 l0 x9_1).length : Int)), (wrap64 (x9_1 + 1)), (by first | rfl | (simp; done) | (simp [*]; done)), (by first | rfl | (simp; done) | (simp [*]; done)), H', ⟨by have := HK1.out; omega⟩, by repeat (first | exact Drawn0.refl _ | apply Drawn0.step)⟩
              · rw [if_neg c6] at H
                have c6b0 : (((rd_L1 l0 x9_1).length : Int) == x4_1) = false := beq_eq_false_iff_ne.mpr c6
                have c6b1 : (((rd_L1 l0 x9_1).length : Int) != x4_1) = true := bne_iff_ne.mpr c6
                simp only [Option.some.injEq, Prod.mk.injEq] at H
                obtain ⟨rfl, rfl⟩ := H
                have p136 : 0 ≤ (x9_1 : Int) := of_decide_eq_true (by first | (with_reducible assumption) | assumption)
                have q136 : x9_1 < (l0.length : Int) := of_decide_eq_true (by first | (with_reducible assumption) | assumption)
                obtain ⟨ad136, A136_0, c136_0, e136, hx136_0, hl136_0, hi136_0⟩ := at_L1 HR0.out x9_1 p136 q136
                cases e136
                have HR136_0 := Aside0.mk hi136_0
                have HC136_0 := Aside0.mk hl136_0
                clear hi136_0 hl136_0
                replace p136 := eq_true p136
                replace q136 := eq_true q136
                go_wp2
                go_ret2
                exact ⟨by first | rfl | (simp; done) | (simp [*]; done), by repeat (first | exact Drawn0.refl _ | apply Drawn0.step)⟩
            · rw [if_neg c5] at H
              have c5b0 : decide (0 < x9_1) = false := decide_eq_false c5
              clear c5
              have H' := Aside0.mk H
              clear H
              have p136 : 0 ≤ (x9_1 : Int) := of_decide_eq_true (by first | (with_reducible assumption) | assumption)
              have q136 : x9_1 < (l0.length : Int) := of_decide_eq_true (by first | (with_reducible assumption) | assumption)
              obtain ⟨ad136, A136_0, c136_0, e136, hx136_0, hl136_0, hi136_0⟩ := at_L1 HR0.out x9_1 p136 q136
              cases e136
              have HR136_0 := Aside0.mk hi136_0
              have HC136_0 := Aside0.mk hl136_0
              clear hi136_0 hl136_0
              replace p136 := eq_true p136
              replace q136 := eq_true q136
              go_wp2
              go_roundg k1
              case measure => have := HK1.out; omega
              case rel => exact ⟨(((rd_L1 l0 x9_1).length : Int)), (wrap64 (x9_1 + 1)), (by first | rfl | (simp; done) | (simp [*]; done)), (by first | rfl | (simp; done) | (simp [*]; done)), H', ⟨by have := HK1.out; omega⟩, by repeat (first | exact Drawn0.refl _ | apply Drawn0.step)⟩
          · rw [if_neg c4] at H
            exact absurd H (by simp)
        · rw [if_neg c3] at H
          exact absurd H (by simp)
      · rw [if_neg c2] at H
        have c2b0 : decide (x9_1 < (l0.length : Int)) = false := decide_eq_false c2
        clear c2
        simp only [Option.some.injEq, Prod.mk.injEq] at H
        obtain ⟨rfl, rfl⟩ := H
        go_wp2
        go_ret2
        exact ⟨by first | rfl | (simp; done) | (simp [*]; done), by repeat (first | exact Drawn0.refl _ | apply Drawn0.step)⟩
end Go.Proofs.Ytibileffpgnjhaa.PRr
namespace Go.Proofs.Ytibileffpgnjhaa.Cw
open Go.RowKit Go.Proofs.YtibileffpgnjhaaW.PrintWords
open Go.Proofs.Ytibileffpgnjhaa.PRq Go.Proofs.Ytibileffpgnjhaa.Fld Go.Proofs.Ytibileffpgnjhaa.Pl Go.Proofs.Ytibileffpgnjhaa.Ot Go.Proofs.Ytibileffpgnjhaa.Tw Go.Proofs.Ytibileffpgnjhaa.Kp Go.Proofs.Ytibileffpgnjhaa.Fw
open Go.Proofs.Ytibileffpgnjhaa.Base (mulN)
set_option linter.unusedSimpArgs false
set_option linter.unusedVariables false
theorem parR_len : ∀ (gone : List Nat) (out : List (List Int)) (d n : Nat), (parR out gone d n).length = out.length
  | [], _, _, _ => rfl
  | i :: t, out, d, n => by
    show (parR (if i ≥ d then out.set i _ else out) t d n).length = _
    rw [parR_len t]
    split <;> simp
theorem parR_row : ∀ (gone : List Nat) (out : List (List Int)) (d n j : Nat), j ∉ gone → row (parR out gone d n) j = row out j
  | [], _, _, _, _, _ => rfl
  | i :: t, out, d, n, j, h => by
    rw [List.mem_cons, not_or] at h
    show row (parR (if i ≥ d then out.set i _ else out) t d n) j = _
    rw [parR_row t _ d n j h.2]
    split
    · exact Tw.row_set_ne (Ne.symm h.1) _
    · rfl
theorem dataR_len (out : List (List Int)) (gone : List Nat) (d : Nat) (p q : List Int) : (dataR out gone d p q).length = out.length := by
  unfold dataR
  split
  · rfl
  · split <;> simp
  · split
    · rfl
    · split
      · exact two_len _ _ _ _ _
      · split <;> simp
theorem dataR_row (out : List (List Int)) (gone : List Nat) (d j : Nat) (p q : List Int) (h : j ∉ gone) : row (dataR out gone d p q) j = row out j := by
  unfold dataR
  split
  · rfl
  · simp only [List.mem_singleton] at h
    split
    · rfl
    · exact Tw.row_set_ne (Ne.symm h) _
  · rename_i a b t
    simp only [List.mem_cons, not_or] at h
    split
    · rfl
    · split
      · unfold twoR
        rw [Tw.row_set_ne (Ne.symm h.2.1), Tw.row_set_ne (Ne.symm h.1)]
      · split
        · exact Tw.row_set_ne (Ne.symm h.1) _
        · exact Tw.row_set_ne (Ne.symm h.1) _
theorem srt_mem {lost : List Int} {x : Int} (h2 : lost.length ≤ 2) : x ∈ srt lost ↔ x ∈ lost := by
  match lost, h2 with
  | [], _ => rfl
  | [a], _ => rfl
  | [a, b], _ =>
    unfold srt
    by_cases h : a ≤ b
    · simp [h]
    · simp [h, or_comm]
theorem row_ext {A B : List (List Int)} (h1 : A.length = B.length) (h : ∀ i, i < A.length → row A i = row B i) : A = B := by
  apply List.ext_getElem h1
  intro i h2 h3
  rw [← row_lt h2, ← row_lt h3, h i h2]
theorem ownR_row (L : List (List Int)) (lost : List Int) (n i : Nat) (hi : i < L.length) : row (ownR L lost n) i = if lost.contains (i : Int) then List.replicate n 0 else row L i := by
  rw [row_lt (by rw [own_len]; exact hi), row_lt hi]
  simp only [ownR, List.getElem_mapIdx]
theorem fixR_len (L : List (List Int)) (lost : List Int) : (fixR L lost).length = L.length := by
  unfold fixR
  simp only
  rw [parR_len, dataR_len, own_len]
theorem fixR_row (L : List (List Int)) (lost : List Int) (h2 : lost.length ≤ 2) (i : Nat) (hi : i < L.length) (hc : lost.contains (i : Int) = false) (h0 : ∀ x ∈ lost, 0 ≤ x) : row (fixR L lost) i = row L i := by
  have hn : i ∉ (srt lost).map Int.toNat := by
    intro h
    obtain ⟨x, hx, e⟩ := List.mem_map.1 h
    rw [srt_mem h2] at hx
    have h1 := h0 x hx
    have e2 : x = (i : Int) := by omega
    rw [e2] at hx
    have : lost.contains (i : Int) = true := by simpa using hx
    rw [this] at hc
    cases hc
  unfold fixR
  simp only
  rw [parR_row _ _ _ _ _ hn, dataR_row _ _ _ _ _ _ hn, ownR_row _ _ _ _ hi, hc]
  simp
theorem again (L : List (List Int)) (lost : List Int) (h2 : lost.length ≤ 2) (h0 : ∀ x ∈ lost, 0 ≤ x) : kept (fixR L lost) lost = kept L lost ∧ (∀ n, ownR (fixR L lost) lost n = ownR L lost n) ∧ fixR (fixR L lost) lost = fixR L lost ∧ mayB (fixR L lost) lost = mayB L lost := by
  have hl := fixR_len L lost
  have hr : ∀ i, i < L.length → lost.contains (i : Int) = false → row (fixR L lost) i = row L i := fun i hi hc => fixR_row L lost h2 i hi hc h0
  have hk : kept (fixR L lost) lost = kept L lost := by
    rw [kept_idx, kept_idx, hl]
    apply List.map_congr_left
    intro i hi
    have h3 := idx_lt hi
    unfold idx at hi
    rw [List.mem_filter] at hi
    exact hr i h3 (by simpa using hi.2)
  have ho : ∀ n, ownR (fixR L lost) lost n = ownR L lost n := fun n => by
    refine row_ext (by rw [own_len, own_len, hl]) (fun i hi => ?_)
    rw [own_len, hl] at hi
    rw [ownR_row _ _ _ _ (by rw [hl]; exact hi), ownR_row _ _ _ _ hi]
    split
    · rfl
    · rename_i hc
      exact hr i hi (Bool.eq_false_iff.2 hc)
  refine ⟨hk, ho, ?_, ?_⟩
  · generalize hX : fixR L lost = X at hk ho hl
    unfold fixR
    simp only
    rw [hk, ho, hl]
    rw [← hX]
    unfold fixR
    rfl
  · unfold mayB
    rw [hk, hl]
end Go.Proofs.Ytibileffpgnjhaa.Cw
namespace Go.Proofs.Ytibileffpgnjhaa.Cd
open Go.RowKit Go.Proofs.YtibileffpgnjhaaW.PrintWords
open Go.Proofs.Ytibileffpgnjhaa.PRq Go.Proofs.Ytibileffpgnjhaa.Fld Go.Proofs.Ytibileffpgnjhaa.Pl Go.Proofs.Ytibileffpgnjhaa.Ot Go.Proofs.Ytibileffpgnjhaa.Tw Go.Proofs.Ytibileffpgnjhaa.Kp Go.Proofs.Ytibileffpgnjhaa.Fw Go.Proofs.Ytibileffpgnjhaa.Cw
set_option linter.unusedSimpArgs false
set_option linter.unusedVariables false
/-- rows of which the last two are the parities of the others -/
structure Code (A : List (List Int)) (n d : Nat) : Prop where
  good : GoodR n A
  len : A.length = d + 2
  p : sumP (A.take d) n = row A d
  q : sumQ (A.take d) n = row A (d + 1)
/-- rows that are alike but for one -/
theorem set_of {A B : List (List Int)} {a : Nat} (hl : A.length = B.length) (h : ∀ j, j < A.length → j ≠ a → row A j = row B j) : B = A.set a (row B a) := by
  refine row_ext (by rw [List.length_set, hl]) (fun j hj => ?_)
  by_cases e : j = a
  · subst e
    rw [Tw.row_set_self (by omega)]
  · rw [Tw.row_set_ne (Ne.symm e), h j (by omega) e]
end Go.Proofs.Ytibileffpgnjhaa.Cd
namespace Go.Proofs.Ytibileffpgnjhaa.Rp
open Go.RowKit Go.Proofs.YtibileffpgnjhaaW.PrintWords
open Go.Proofs.Ytibileffpgnjhaa.Fld Go.Proofs.Ytibileffpgnjhaa.Pl
set_option linter.unusedSimpArgs false
set_option linter.unusedVariables false
theorem even_l0 (L : List (List Int)) (hm : L.length ≤ 1000000) (h0 : 0 < L.length) : ∀ d i : Nat, L.length - i = d → i ≤ L.length → Ev (fun k => PRq.ramekinref5_even.l0 k L (i : Int)) ((L.drop i).all fun r => r.length == (row L 0).length)
  | 0, i, hd, hi => by
    obtain rfl : i = L.length := by omega
    refine Ev.step (f := fun _ => some true) (fun k => ?_) ?_
    · rw [PRq.ramekinref5_even.l0, if_neg (by omega)]
    · rw [List.drop_length]; exact Ev.now _
  | d + 1, i, hd, hi => by
    have hil : i < L.length := by omega
    have hdr : L.drop i = L[i] :: L.drop (i + 1) := List.drop_eq_getElem_cons hil
    have hr0 : PRq.rd_L2 L 0 = row L 0 := by unfold PRq.rd_L2 row; simp
    by_cases h : (L[i].length : Int) = ((row L 0).length : Int)
    · refine Ev.step (f := fun k => PRq.ramekinref5_even.l0 k L ((i + 1 : Nat) : Int)) (fun k => ?_) ?_
      · rw [PRq.ramekinref5_even.l0, if_pos (by omega), if_pos (by omega), if_pos (by omega), rdL_nat, row_lt hil, hr0, if_pos h, w64 (by omega) (by omega)]; rfl
      · have := even_l0 L hm h0 d (i + 1) (by omega) (by omega)
        rw [hdr, List.all_cons, show (L[i].length == (row L 0).length) = true from by rw [beq_iff_eq]; omega, Bool.true_and]
        exact this
    · refine Ev.step (f := fun _ => some false) (fun k => ?_) ?_
      · rw [PRq.ramekinref5_even.l0, if_pos (by omega), if_pos (by omega), if_pos (by omega), rdL_nat, row_lt hil, hr0, if_neg h]
      · rw [hdr, List.all_cons, show (L[i].length == (row L 0).length) = false from by rw [beq_eq_false_iff_ne]; omega, Bool.false_and]
        exact Ev.now _
theorem even_ok (L : List (List Int)) (n a b : Nat) (hn : ∀ r ∈ L, r.length = n) (h1 : 1 ≤ a) (ha : a ≤ L.length) (hb : L.length ≤ b) (hm : L.length ≤ 1000000) : PRr.ramekinref5_even.f L (a : Int) (b : Int) = some true := by
  refine Lim.lim_ev (fun k => PRq.ramekinref5_even.mono _ _ _ k) ?_
  refine Ev.congr (f := fun k => PRq.ramekinref5_even.j0 k L false) (fun k => ?_) (Ev.step (f := fun k => PRq.ramekinref5_even.l0 k L ((1 : Nat) : Int)) (fun k => ?_) ?_)
  · rw [PRq.ramekinref5_even.f, if_neg (by omega), decide_eq_false (by omega)]
  · rw [PRq.ramekinref5_even.j0, if_neg (by simp)]; rfl
  · have := even_l0 L hm (by omega) (L.length - 1) 1 (by omega) (by omega)
    have e : ((L.drop 1).all fun r => r.length == (row L 0).length) = true := by
      rw [List.all_eq_true]
      intro r hr
      rw [beq_iff_eq, hn r (List.mem_of_mem_drop hr), row_lt (by omega), hn _ (List.getElem_mem _)]
    rw [e] at this
    exact this
theorem rmul {x y : Int} (hx : Byt x) (hy : Byt y) : PRr.ramekinref2_Mul.f x y = some (mulI x y) := Lim.lim_ev (fun k => PRq.ramekinref2_Mul.mono _ _ k) (refmul_ev hx hy)
theorem rexp (n : Nat) (hn : n < 255) : PRr.ramekinref2_Exp.f (n : Int) = some (expI n) := Lim.lim_ev (fun k => PRq.ramekinref2_Exp.mono _ k) (refexp_ev n hn)
theorem par_l1 (L : List (List Int)) (i : Nat) (r : List Int) (b : Int) (p q : List Int) (hi : i < L.length) (hr : row L i = r) (hp : p.length = r.length) (hq : q.length = r.length) (hlen : r.length ≤ 281474976710656) (hb : Byt b) (bp : Bytes p) (bq : Bytes q) (br : Bytes r) (R : List Int × List Int)
    (h : Ev (fun k => PRr.ramekinref5_Parity.l0 k L (Pl.part p r none r.length) (Pl.part q r (some b) r.length) ((i : Int) + 1)) R) (hi2 : i < 1000000) :
    ∀ d j : Nat, r.length - j = d → j ≤ r.length → Ev (fun k => PRr.ramekinref5_Parity.l1 k L (Pl.part p r none j) (Pl.part q r (some b) j) (i : Int) b (j : Int)) R
  | 0, j, hd, hj => by
    obtain rfl : j = r.length := by omega
    have hr2 : PRr.rd_L1 L (i : Int) = r := by rw [← hr]; unfold PRr.rd_L1 row; simp
    refine Ev.step (f := fun k => PRr.ramekinref5_Parity.l0 k L (Pl.part p r none r.length) (Pl.part q r (some b) r.length) ((i : Int) + 1)) (fun k => ?_) h
    rw [PRr.ramekinref5_Parity.l1, if_pos (by omega), if_pos (by omega), hr2, if_neg (by omega), w64 (by omega) (by omega)]
  | d + 1, j, hd, hj => by
    have hjr : j < r.length := by omega
    have hr2 : PRr.rd_L1 L (i : Int) = r := by rw [← hr]; unfold PRr.rd_L1 row; simp
    refine Ev.step (f := fun k => PRr.ramekinref5_Parity.l1 k L (Pl.part p r none (j + 1)) (Pl.part q r (some b) (j + 1)) (i : Int) b ((j + 1 : Nat) : Int)) (fun k => ?_) (par_l1 L i r b p q hi hr hp hq hlen hb bp bq br R h hi2 d (j + 1) (by omega) (by omega))
    have e1 : at_ (Pl.part p r none j) j = at_ p j := by rw [part_at _ _ _ _ _ (by omega), if_neg (by omega)]
    have e2 : at_ (Pl.part q r (some b) j) j = at_ q j := by rw [part_at _ _ _ _ _ (by omega), if_neg (by omega)]
    have e3 := part_set p r none j (by omega)
    have e4 := part_set q r (some b) j (by omega)
    have t3 : term r none j = at_ r j := rfl
    have t4 : term r (some b) j = mulI b (at_ r j) := rfl
    rw [t3] at e3
    rw [t4] at e4
    rw [PRr.ramekinref5_Parity.l1, if_pos (by omega), if_pos (by omega), hr2, if_pos (by omega), if_pos (by omega), if_pos (by rw [part_len]; omega), if_pos (by rw [part_len]; omega), w64 (by omega) (by omega)]
    simp only [rd_nat, e1, e2, Int.toNat_natCast]
    rw [rmul hb (byt_at br j)]
    simp only [Option.bind_some]
    rw [xor_u8 (byt_at bp j) (byt_at br j), xor_u8 (byt_at bq j) (byt_mul (byt_at br j)), e3, e4]
    rfl
theorem par_l0 (L : List (List Int)) (n : Nat) (hn : ∀ r ∈ L, r.length = n) (hL : ∀ r ∈ L, Bytes r) (h254 : L.length ≤ 254) (hn2 : n ≤ 281474976710656) :
    ∀ d i, L.length - i = d → i ≤ L.length → Ev (fun k => PRr.ramekinref5_Parity.l0 k L (sumP (L.take i) n) (sumQ (L.take i) n) (i : Int)) (sumP L n, sumQ L n)
  | 0, i, hd, hi => by
    obtain rfl : i = L.length := by omega
    refine Ev.step (f := fun _ => some (sumP L n, sumQ L n)) (fun k => ?_) (Ev.now _)
    rw [PRr.ramekinref5_Parity.l0, if_neg (by omega), List.take_length]
  | d + 1, i, hd, hi => by
    have hiL : i < L.length := by omega
    have hm : L[i] ∈ L := List.getElem_mem hiL
    have htk : ∀ r ∈ L.take i, Bytes r := fun r hr => hL r (List.mem_of_mem_take hr)
    refine Ev.step (f := fun k => PRr.ramekinref5_Parity.l1 k L (sumP (L.take i) n) (sumQ (L.take i) n) (i : Int) (expI i) 0) (fun k => ?_) ?_
    · rw [PRr.ramekinref5_Parity.l0, if_pos (by omega), rexp i (by omega)]
      rfl
    · have h1 := par_l1 L i L[i] (expI i) (sumP (L.take i) n) (sumQ (L.take i) n) hiL (row_lt hiL) (by rw [sumP_len, hn _ hm]) (by rw [sumQ_len, hn _ hm]) (by rw [hn _ hm]; exact hn2) (byt_exp i) (bytes_sumP _ _ htk) (bytes_sumQ _ _ htk) (hL _ hm) (sumP L n, sumQ L n) ?_ (by omega) L[i].length 0 (by omega) (by omega)
      · simpa [part_zero] using h1
      · have := par_l0 L n hn hL h254 hn2 d (i + 1) (by omega) (by omega)
        have e1 : Pl.part (sumP (L.take i) n) L[i] none L[i].length = sumP (L.take (i + 1)) n := by
          refine ext_at (by rw [part_len, sumP_len, sumP_len]) (fun k hk => ?_)
          rw [part_len, sumP_len] at hk
          rw [part_at _ _ _ _ _ (by rw [sumP_len]; exact hk), if_pos (by rw [hn _ hm]; exact hk), sumP_at _ hk, sumP_at _ hk, List.take_succ_eq_append_getElem hiL, pS_snoc _ _ _ htk (hL _ hm)]
          rfl
        have e2 : Pl.part (sumQ (L.take i) n) L[i] (some (expI i)) L[i].length = sumQ (L.take (i + 1)) n := by
          refine ext_at (by rw [part_len, sumQ_len, sumQ_len]) (fun k hk => ?_)
          rw [part_len, sumQ_len] at hk
          rw [part_at _ _ _ _ _ (by rw [sumQ_len]; exact hk), if_pos (by rw [hn _ hm]; exact hk), sumQ_at _ hk, sumQ_at _ hk, List.take_succ_eq_append_getElem hiL, qS_snoc _ _ _ _ htk (hL _ hm)]
          have : (L.take i).length = i := by simp; omega
          rw [this, Nat.zero_add]
          rfl
        rw [e1, e2]
        simpa using this
theorem refpar_ev (L : List (List Int)) (n : Nat) (hn : ∀ r ∈ L, r.length = n) (hL : ∀ r ∈ L, Bytes r) (h2 : 2 ≤ L.length) (h14 : L.length ≤ 14) (hn2 : n ≤ 281474976710656) : Ev (fun k => PRr.ramekinref5_Parity.f k L) (sumP L n, sumQ L n) := by
  have hr0 : PRr.rd_L1 L 0 = row L 0 := by unfold PRr.rd_L1 row; simp
  have hl0 : (row L 0).length = n := by rw [row_lt (by omega)]; exact hn _ (List.getElem_mem _)
  refine Ev.congr (f := fun k => PRr.ramekinref5_Parity.l0 k L (sumP (L.take 0) n) (sumQ (L.take 0) n) ((0 : Nat) : Int)) (fun k => ?_) (par_l0 L n hn hL (by omega) hn2 L.length 0 (by omega) (by omega))
  have he := even_ok L n 2 14 hn (by omega) (by omega) (by omega) (by omega)
  rw [PRr.ramekinref5_Parity.f, show (2 : Int) = ((2 : Nat) : Int) from rfl, show (14 : Int) = ((14 : Nat) : Int) from rfl, he]
  simp only [Option.bind_some, ↓reduceIte]
  rw [if_pos (by omega), hr0, hl0, if_pos (by omega), if_pos (by simpa using hn2)]
  simp only [Int.toNat_natCast, List.take_zero]
  rw [← rep_zero, ← rep_zero']
  rfl
end Go.Proofs.Ytibileffpgnjhaa.Rp
namespace Go.Proofs.Ytibileffpgnjhaa.Rf
open Go.RowKit Go.Proofs.YtibileffpgnjhaaW.PrintWords
open Go.Proofs.Ytibileffpgnjhaa.Fld Go.Proofs.Ytibileffpgnjhaa.Pl Go.Proofs.Ytibileffpgnjhaa.Ot Go.Proofs.Ytibileffpgnjhaa.Kp Go.Proofs.Ytibileffpgnjhaa.Fw Go.Proofs.Ytibileffpgnjhaa.Cw Go.Proofs.Ytibileffpgnjhaa.Cd
set_option linter.unusedSimpArgs false
set_option linter.unusedVariables false
theorem code_of {L : List (List Int)} {n : Nat} (hL : Tw.GoodR n L) : Cd.Code (L ++ [sumP L n, sumQ L n]) n L.length := by
  have hb : ∀ x ∈ L, Bytes x := fun x hx => (hL x hx).2
  refine ⟨fun r hr => ?_, by simp, ?_, ?_⟩
  · rcases List.mem_append.1 hr with hr | hr
    · exact hL r hr
    · simp only [List.mem_cons, List.not_mem_nil, or_false] at hr
      rcases hr with rfl | rfl
      · exact ⟨sumP_len _ _, bytes_sumP _ _ hb⟩
      · exact ⟨sumQ_len _ _, bytes_sumQ _ _ hb⟩
  · rw [List.take_left]
    unfold row
    simp
  · rw [List.take_left]
    unfold row
    simp
theorem spare (P : List Int) (h : P.length ≤ 2) : ∃ i : Nat, i < 3 ∧ P.contains (i : Int) = false := by
  match P, h with
  | [], _ => exact ⟨0, by omega, rfl⟩
  | [a], _ =>
    by_cases h0 : a = 0
    · exact ⟨1, by omega, by simp; omega⟩
    · exact ⟨0, by omega, by simp; omega⟩
  | [a, b], _ =>
    by_cases h0 : a = 0 ∨ b = 0
    · by_cases h1 : a = 1 ∨ b = 1
      · exact ⟨2, by omega, by simp; omega⟩
      · exact ⟨1, by omega, by simp; omega⟩
    · exact ⟨0, by omega, by simp; omega⟩
end Go.Proofs.Ytibileffpgnjhaa.Rf
namespace Go.Proofs.Ytibileffpgnjhaa.Base
open Go.RowKit
set_option linter.unusedSimpArgs false
set_option linter.unusedVariables false
/-- all but one block stays -/
structure But (b : Nat) (w w' : World) : Prop where
  os : w'.os = w.os
  tape : w'.tape = w.tape
  output : w'.output = w.output
  size : w.heap.size ≤ w'.heap.size
  block : ∀ j, j < w.heap.size → j ≠ b → w'.heap[j]? = w.heap[j]?
theorem But.refl (b : Nat) (w : World) : But b w w := ⟨rfl, rfl, rfl, Nat.le_refl _, fun _ _ _ => rfl⟩
theorem But.trans {b : Nat} {w w1 w2 : World} (h : But b w w1) (k : But b w1 w2) : But b w w2 :=
  ⟨k.os.trans h.os, k.tape.trans h.tape, k.output.trans h.output, Nat.le_trans h.size k.size, fun j hj hn => (k.block j (Nat.lt_of_lt_of_le hj h.size) hn).trans (h.block j hj hn)⟩
theorem But.of_below {b : Nat} {w w' : World} (h : Below w.heap.size w w') : But b w w' := ⟨h.os, h.tape, h.output, h.size, fun j hj _ => h.block j hj⟩
theorem But.below {b base : Nat} {w0 w w' : World} (h : But b w w') (h0 : Below base w0 w) (hb : base ≤ b) (hw : base ≤ w.heap.size) : Below base w0 w' :=
  ⟨h.os.trans h0.os, h.tape.trans h0.tape, h.output.trans h0.output, Nat.le_trans h0.size h.size, fun j hj => (h.block j (Nat.lt_of_lt_of_le hj hw) (by omega)).trans (h0.block j hj)⟩
/-- a reader: what it has yet to read, with no error -/
def RdS (w : World) (base b : Nat) (bs : List Int) : Prop := base ≤ b ∧ ∃ A c, bs.length ≤ c ∧ w.heap[b]? = some (.cells #[.slice A bs.length c, .int .i64 0] 131 (0, 0)) ∧ Sl w base b 1 A (By bs)
theorem RdS.but {w w' : World} {base b g : Nat} {bs : List Int} (h : RdS w base b bs) (hk : But g w w') (hg : b < g) : RdS w' base b bs := by
  obtain ⟨h1, A, c, h2, h3, h4⟩ := h
  have hlt : b < w.heap.size := (Array.getElem?_eq_some_iff.1 h3).1
  exact ⟨h1, A, c, h2, (hk.block b hlt (by omega)).trans h3, fun hne => by
    obtain ⟨bb, o, e, hL, hB, hr⟩ := h4 hne
    exact ⟨bb, o, e, hL, hB, fun i hi => (rd_congr (hk.block bb (by omega) (by omega)) _ _).trans (hr i hi)⟩⟩
theorem RdS.lt {w : World} {base b : Nat} {bs : List Int} (h : RdS w base b bs) : b < w.heap.size := by
  obtain ⟨h1, A, c, h2, h3, h4⟩ := h
  exact (Array.getElem?_eq_some_iff.1 h3).1
/-- bytes as a number, the lowest one first -/
def leN : List Int → Nat
  | [] => 0
  | x :: xs => x.toNat + 256 * leN xs
def OkB (bs : List Int) : Prop := ∀ x ∈ bs, 0 ≤ x ∧ x < 256
theorem leN_lt : ∀ bs : List Int, OkB bs → leN bs < 256 ^ bs.length
  | [], _ => by simp [leN]
  | x :: xs, h => by
    have := leN_lt xs (fun y hy => h y (List.mem_cons_of_mem _ hy))
    have hx := h x List.mem_cons_self
    simp only [leN, List.length_cons, Nat.pow_succ]
    omega
theorem leN_snoc (xs : List Int) (y : Int) : leN (xs ++ [y]) = leN xs + y.toNat * 256 ^ xs.length := by
  induction xs with
  | nil => simp [leN]
  | cons x xs ih =>
    simp only [List.cons_append, leN, ih, List.length_cons, Nat.pow_succ]
    rw [Nat.mul_add, Nat.add_assoc, Nat.mul_left_comm, Nat.mul_comm (256 ^ xs.length) 256]
theorem wraps_u64 (n : Int) (h0 : 0 ≤ n) (h1 : n < 2 ^ 64) : IntKind.u64.wrap n = n := by
  simp [IntKind.wrap, IntKind.bits, IntKind.signed]
  omega
theorem pow_256 (i : Nat) : 256 ^ i = 2 ^ (8 * i) := by rw [Nat.pow_mul]
end Go.Proofs.Ytibileffpgnjhaa.Base
namespace Go.Proofs.Ytibileffpgnjhaa.Base
open Go.RowKit Go.Maps Go.Proofs.YtibileffpgnjhaaW.PrintWords Go.Proofs.YtibileffpgnjhaaW.PrintLast
open Go.Proofs.Ytibileffpgnjhaa.Fld Go.Proofs.Ytibileffpgnjhaa.Pl Go.Proofs.Ytibileffpgnjhaa.Kp Go.Proofs.Ytibileffpgnjhaa.Fw Go.Proofs.Ytibileffpgnjhaa.Cw Go.Proofs.Ytibileffpgnjhaa.Cd Go.Proofs.Ytibileffpgnjhaa.Rf
set_option linter.unusedSimpArgs false
set_option linter.unusedVariables false
/-- bytes that the print's words tell, as a slice -/
theorem by_of_C {w : World} {A : Option Addr} {n : Nat} {bs : List Int} (h : Kd.C (Kd.int .u8) w A n bs) : Sl w 0 w.heap.size 1 A (By bs) := fun hne => by
  have hn : 0 < n := by
    have h1 := h.1
    rcases Nat.eq_zero_or_pos n with h0 | h0
    · exact absurd (by simp [By, List.length_eq_zero_iff.1 (h1.trans h0)]) hne
    · exact h0
  obtain ⟨ad, rfl, hc⟩ := h.2.2 hn
  have hcell : ∀ (j : Nat) (hj : j < bs.length), w.cell? (ad.add j) = some (.int .u8 bs[j]) := fun j hj => by
    obtain ⟨c, hl, hk, hcc⟩ := hc j _ (List.getElem?_eq_getElem hj)
    have hc1 : c = [Value.int .u8 bs[j]] := hk
    have := hcc 0 (.int .u8 bs[j]) (by rw [hc1]; rfl)
    rw [show (Kd.int IntKind.u8).sz = 1 from rfl, Nat.mul_one, Nat.add_zero] at this
    exact this
  have hl : bs.length = n := h.1
  have h0 := hcell 0 (by omega)
  have hsp : ad.spot = none := by
    have h00 : ad.add 0 = ad := by simp [Addr.add]
    rw [h00] at h0
    cases hs : ad.spot with
    | none => rfl
    | some s =>
      exfalso
      unfold World.cell? at h0
      rw [hs] at h0
      split at h0 <;> simp at h0
  obtain ⟨b, o, sp⟩ := ad
  simp only at hsp
  subst hsp
  refine ⟨b, o, rfl, Nat.zero_le _, ?_, fun i hi => ?_⟩
  · rw [addr_nxt] at h0
    exact World.block_lt_of_cell? w _ h0
  · have hi' : i < bs.length := by simpa [By] using hi
    have := hcell i hi'
    rw [addr_nxt] at this
    rw [Nat.mul_one]
    simpa [By] using rd_one this
abbrev RC (w : World) (A : Option Addr) (n : Nat) (L : List (List Int)) : Prop := Kd.C (Kd.slice 5 (Kd.int .u8)) w A n L
theorem RC.take {w : World} {A : Option Addr} {n m : Nat} {L : List (List Int)} (h : RC w A n L) (hm : m ≤ n) : RC w A m (L.take m) := by
  obtain ⟨h1, h2, h3⟩ := h
  refine ⟨by rw [List.length_take]; omega, by omega, fun hp => ?_⟩
  obtain ⟨ad, e, hc⟩ := h3 (by omega)
  refine ⟨ad, e, fun j p hj => ?_⟩
  have hjm : j < (L.take m).length := (List.getElem?_eq_some_iff.1 hj).1
  rw [List.length_take] at hjm
  rw [List.getElem?_take, if_pos (by omega)] at hj
  exact hc j p hj
/-- an element of a row of bytes -/
theorem RC.at_ {w : World} {A : Option Addr} {n : Nat} {L : List (List Int)} (h : RC w A n L) (i : Nat) (hi : i < n) : ∃ ad A0 c0, A = some ad ∧ w.cell? (ad.add i) = some (.slice A0 (row L i).length c0) ∧ (row L i).length ≤ c0 ∧ Sl w 0 w.heap.size 1 A0 (By (row L i)) := by
  obtain ⟨ad, c, e, _, hK, hc0⟩ := Kd.C_get h ([] : List Int) (i : Int) (by omega) (by omega)
  have hc : ∀ j u, c[j]? = some u → w.cell? (ad.add (i * 1 + j)) = some u := by
    intro j u hu
    have := hc0 j u hu
    rw [Int.toNat_natCast] at this
    exact this
  have hr : L.getD (i : Int).toNat ([] : List Int) = row L i := by rw [Int.toNat_natCast]; rfl
  rw [hr] at hK
  obtain ⟨A0, c0, rfl, l0, g0⟩ := hK
  exact ⟨ad, A0, c0, e, by have hq := hc 0 _ rfl; rwa [Nat.mul_one, Nat.add_zero] at hq, l0, by_of_C g0⟩
/-- rows of which the last two are right -/
def rightR (X : List (List Int)) : Bool := decide (sumP (X.take (X.length - 2)) 48 = row X (X.length - 2)) && decide (sumQ (X.take (X.length - 2)) 48 = row X (X.length - 2 + 1))
end Go.Proofs.Ytibileffpgnjhaa.Base
namespace Go.Proofs.Ytibileffpgnjhaa.Base
open Go.RowKit Go.Maps Go.Proofs.YtibileffpgnjhaaW.PrintWords Go.Proofs.YtibileffpgnjhaaW.PrintLast
open Go.Proofs.Ytibileffpgnjhaa.Fld Go.Proofs.Ytibileffpgnjhaa.Pl Go.Proofs.Ytibileffpgnjhaa.Kp Go.Proofs.Ytibileffpgnjhaa.Fw Go.Proofs.Ytibileffpgnjhaa.Cw Go.Proofs.Ytibileffpgnjhaa.Cd Go.Proofs.Ytibileffpgnjhaa.Rf
set_option linter.unusedSimpArgs false
set_option linter.unusedVariables false
theorem Rws.grown {w w' : World} {base : Nat} {v : Value} {T : List Hr} {row : Option Nat} (h : Rws w base v T) (hg : w.grownBy w' row) (h1 : v.ownBlock = none ∨ v.ownBlock ≠ row) (h2 : ∀ t ∈ T, ∀ a, t.1 = some a → some a.block ≠ row) : Rws w' base v T :=
  ⟨h.1.kept hg h1, fun t ht => by
    obtain ⟨k1, k2, k3, k4⟩ := h.2 t ht
    exact ⟨k1, k2, (k3.keep (fun a ha => hg.block _ (k4 a ha).1 (h2 t ht a ha))).more hg.size, fun a ha => ⟨Nat.lt_of_lt_of_le (k4 a ha).1 hg.size, (k4 a ha).2⟩⟩⟩
theorem Rws.alloc {w : World} {base : Nat} {v : Value} {T : List Hr} (h : Rws w base v T) (o : Obj) : Rws (w.alloc o) base v T := h.below ((Below.refl _ _).alloc (Nat.le_refl _) o)
/-- a page's bytes, as they lie -/
def PgOk (w : World) (p : Pg) : Prop := p.2.2.2.length ≤ p.2.2.1 ∧ p.2.2.2.length ≤ 1000000 ∧ Sl w 0 w.heap.size 1 p.2.1 (By p.2.2.2) ∧ (∀ a, p.2.1 = some a → a.block < w.heap.size) ∧ OkB p.2.2.2
theorem PgOk.below {w w' : World} {p : Pg} (h : PgOk w p) (hb : Below w.heap.size w w') : PgOk w' p :=
  ⟨h.1, h.2.1, (h.2.2.1.below hb).more hb.size, fun a ha => Nat.lt_of_lt_of_le (h.2.2.2.1 a ha) hb.size, h.2.2.2.2⟩
theorem own_ne {w : World} {base base' : Nat} {v v' : Value} {n m : Nat} {xs ys : List Value} {e e' : TypeId} {s s' : Nat} (h : w.ownsRow base e s v n xs) (h' : w.ownsRow base' e' s' v' m ys) (hne : e ≠ e') : v.ownBlock = none ∨ v.ownBlock ≠ v'.ownBlock := by
  cases hv : v.ownBlock with
  | none => exact .inl rfl
  | some k =>
    refine .inr (fun e2 => ?_)
    obtain ⟨c1, h1⟩ := own_typed h k hv
    obtain ⟨c2, h2⟩ := own_typed h' k e2.symm
    rw [h1] at h2
    injection h2 with h2
    injection h2 with _ h3 _
    exact hne h3
end Go.Proofs.Ytibileffpgnjhaa.Base
namespace Go.Proofs.Ytibileffpgnjhaa.Base
open Go.RowKit Go.Proofs.YtibileffpgnjhaaW.PrintWords Go.Proofs.YtibileffpgnjhaaW.PrintLast
set_option linter.unusedSimpArgs false
set_option linter.unusedVariables false
/-- a head (api.Head) -/
structure Hd where
  a : Int
  b : Int
  c : Int
  d : Int
def Hd.arr (h : Hd) : Array Value := #[.int .i64 h.a, .int .i64 h.b, .int .i64 h.c, .int .i64 h.d]
def Hd.zero : Hd := ⟨0, 0, 0, 0⟩
theorem Hd.ext_iff' (e f : Hd) : (e.a = f.a ∧ e.b = f.b ∧ e.c = f.c ∧ e.d = f.d) ↔ e = f := by
  constructor
  · rintro ⟨h1, h2, h3, h4⟩
    cases e; cases f
    simp only at h1 h2 h3 h4
    subst h1 h2 h3 h4
    rfl
  · rintro rfl; exact ⟨rfl, rfl, rfl, rfl⟩
instance : DecidableEq Hd := fun e f => decidable_of_iff _ (Hd.ext_iff' e f)
theorem Hd.arr_size (h : Hd) : h.arr.size = 4 := by simp [Hd.arr]
theorem Hd.arr0 (h : Hd) : h.arr[0]? = some (.int .i64 h.a) := rfl
theorem Hd.arr1 (h : Hd) : h.arr[1]? = some (.int .i64 h.b) := rfl
theorem Hd.arr2 (h : Hd) : h.arr[2]? = some (.int .i64 h.c) := rfl
theorem Hd.arr3 (h : Hd) : h.arr[3]? = some (.int .i64 h.d) := rfl
theorem Hd.arr0g (e : Hd) (h : 0 < e.arr.size) : e.arr[0] = .int .i64 e.a := rfl
theorem Hd.okW (h : Hd) : Base.okW h.arr 4 = true := by
  have h1 : h.arr.all (·.oneCell') = true := by
    rw [Array.all_eq_true_iff_forall_mem]
    intro v hv
    simp only [Hd.arr, List.mem_toArray, List.mem_cons, List.not_mem_nil, or_false] at hv
    rcases hv with rfl | rfl | rfl | rfl <;> rfl
  unfold Base.okW
  rw [h1]
  rfl
theorem Hd.lit (a b c d : Int) : (#[.int .i64 a, .int .i64 b, .int .i64 c, .int .i64 d] : Array Value) = (⟨a, b, c, d⟩ : Hd).arr := rfl
theorem ldV_hd (a : Addr) : loadVar 51 a = ldV 51 a := rfl
theorem stV_hd (a : Addr) (v : Value) : storeVar 51 a v = stV 51 a v := rfl
set_option maxRecDepth 100000 in
theorem info_hd : (Try.prog.info? 51).map (·.size) = some 4 := by kernel_rfl
set_option maxRecDepth 100000 in
theorem run_ldV_hd (w : World) (b o : Nat) : (ldV 51 ⟨b, o, none⟩).run Try.prog w = ldR Try.prog 51 ⟨b, o, none⟩ (rd w b o 4) w :=
  run_ldV Try.prog 51 4 _ Try.underlying51 rfl info_hd w b o
set_option maxRecDepth 100000 in
theorem run_stV_hd (w : World) (b o : Nat) (cs : Array Value) : (stV 51 ⟨b, o, none⟩ (.agg cs)).run Try.prog w =
    stR Try.prog 51 ⟨b, o, none⟩ (canW w b o 4 && Base.okW cs 4) (.agg cs) w (wr w b o cs) :=
  run_stV Try.prog 51 4 info_hd w b o cs
def bdHd (ps : Array (Nat × Value)) : Sem Value := Instr.build 51 ps
theorem build_hd (ps : Array (Nat × Value)) : Instr.build 51 ps = bdHd ps := rfl
set_option maxRecDepth 100000 in
theorem run_bdHd4 (w : World) (a b c d : Int) : (bdHd #[(0, .int .i64 a), (1, .int .i64 b), (2, .int .i64 c), (3, .int .i64 d)]).run Try.prog w = .ok (.agg (⟨a, b, c, d⟩ : Hd).arr) w := by kernel_rfl
set_option maxRecDepth 100000 in
theorem run_bdHd0 (w : World) : (bdHd #[]).run Try.prog w = .ok (.agg (⟨0, 0, 0, 0⟩ : Hd).arr) w := by kernel_rfl
theorem results_cct {P : Program} {fn : Func} {p p' q : Tmp} {t t' : TypeId} (hf : fn.results = #[.cell p t, .cell p' t', .tmp q]) {n n' : Nat} {d d' : TypeDesc} (hu : P.underlying t = some d) (hd : d.isRow = true) (hi : (P.info? t).map (·.size) = some n)
    (hu' : P.underlying t' = some d') (hd' : d'.isRow = true) (hi' : (P.info? t').map (·.size) = some n')
    {w : World} {tmps : Array Value} {b o b' o' : Nat} {cs cs' : Array Value} (hp : tmps.getD p undef = .pointer (some ⟨b, o, none⟩)) (h : rd w b o n = some cs) (hp' : tmps.getD p' undef = .pointer (some ⟨b', o', none⟩)) (h' : rd w b' o' n' = some cs') :
    (results fn tmps).run P w = .ok (.tuple #[.agg cs, .agg cs', tmps.getD q undef]) w := by
  have hp1 : tmps[p]?.getD undef = .pointer (some ⟨b, o, none⟩) := by simpa using hp
  have hp2 : tmps[p']?.getD undef = .pointer (some ⟨b', o', none⟩) := by simpa using hp'
  simp [results, hf, hp1, hp2, asAddr, run_loadVar_rd hu hd hi h, run_loadVar_rd hu' hd' hi' h']
theorem But.at_ {b j : Nat} {w w' : World} {X : Obj} (h : But b w w') (hj : w.heap[j]? = some X) (hn : j ≠ b) : w'.heap[j]? = some X :=
  (h.block j (Array.getElem?_eq_some_iff.1 hj).1 hn).trans hj
attribute [local go_sem] Ent.arr0 Ent.arr1 Ent.arr2 Ent.set1 Ent.set2 Ent.arr_size Ent.okW Ent.lit run_ldV_ent run_stV_ent ldR_some stR_true rd_new_whole rd_alloc canW_new canW_alloc wr_new wr_alloc rd_drew rd_drewN canW_drew canW_drewN run_bsS_ent run_bsS_ent0 run_eqI_ent rd_setCell rd_setCell_same canW_setCell' Option.map_some cell_wr_other rd_wr_same rd_wr_other
attribute [local go_sem ↓] ldV_ent stV_ent bsS_ent eqI_ent
attribute [local go_sem] Ent.arr0g Ent.arr1g Ent.arr2g run_ldV_dat rd_dat run_eqI_dat dat_lit
attribute [local go_sem ↓] ldV_dat eqI_dat
attribute [local go_sem] run_bdE4 run_bdE3 run_bdE1 run_bdE0
attribute [local go_sem ↓] build_ent
attribute [local go_sem] canW_wr_other Hd.arr_size Hd.arr0 Hd.arr0g Hd.okW Hd.lit run_ldV_hd run_stV_hd run_bdHd4 run_bdHd0
attribute [local go_sem ↓] ldV_hd stV_hd build_hd
/-- a slot's bytes, whatever they are -/
def rawB (H : List Int) (x1 x2 x3 k : Int) (L S D Z : List Int) : List Int := H ++ x1 :: x2 :: x3 :: k :: (L ++ (S ++ (D ++ Z)))
def datL (D : List Int) : Fin 16 → Int := fun i => D.getD i 0
def rawE (k : Int) (L S D : List Int) : Ent := ⟨k, wrap64 (leN L), wrap64 (leN S), datL D⟩
def fineB (h0 : Int) (e : Ent) (Z : List Int) : Prop := (∀ z ∈ Z, z = 0) ∧ (1 ≤ h0 ∧ h0 ≤ 1099511627776) ∧ OkE e
structure PS (w0 : World) (P2 base b : Nat) (rest : List Int) (wr : World) : Prop where
  below : Below w0.heap.size w0 wr
  rd : RdS wr base b rest
  e2 : wr.heap[P2]? = some (.cells (⟨0, 0, 0, 0⟩ : Hd).arr 51 (0, 0))
  e3 : wr.heap[P2 + 1]? = some (.cells ({ k := 0, l := 0, s := 0, d := fun _ => 0 } : Ent).arr 44 (0, 0))
  lt : P2 + 2 ≤ base
  le : w0.heap.size ≤ P2
theorem PS.but {w0 wr wr' : World} {P2 base b : Nat} {rest rest' : List Int} (h : PS w0 P2 base b rest wr) (hB : But b wr wr') (hR : RdS wr' base b rest') : PS w0 P2 base b rest' wr' := by
  have h1 := h.lt
  have h2 := h.rd.1
  have h3 := h.le
  have h4 := h.rd.lt
  exact ⟨hB.below h.below (by omega) (by omega), hR, hB.at_ h.e2 (by omega), hB.at_ h.e3 (by omega), h1, h3⟩
theorem PS.alloc {w0 wr : World} {P2 base b : Nat} {rest : List Int} (h : PS w0 P2 base b rest wr) (o : Obj) : PS w0 P2 base b rest (wr.alloc o) := by
  have h1 := h.lt
  have h2 := h.rd.1
  have h3 := h.le
  have h4 := h.rd.lt
  exact ⟨h.below.alloc h.below.size o, h.rd.but (g := wr.heap.size) ⟨rfl, rfl, rfl, by simp, fun j hj _ => Below.heap_alloc _ _ _ hj⟩ h4, (Below.heap_alloc _ _ _ (by omega)).trans h.e2, (Below.heap_alloc _ _ _ (by omega)).trans h.e3, h1, h3⟩
theorem PS.set {w0 wr : World} {P2 base b g i : Nat} {rest : List Int} (h : PS w0 P2 base b rest wr) (hg : b < g) (v : Value) : PS w0 P2 base b rest (wr.setCell ⟨g, i, none⟩ v) := by
  have h1 := h.lt
  have h2 := h.rd.1
  have h3 := h.le
  have h4 := h.rd.lt
  exact ⟨h.below.setCell (p := ⟨g, i, none⟩) (by show w0.heap.size ≤ g; omega) v, h.rd.but (g := g) ⟨rfl, rfl, rfl, by simp, fun j hj hn => Below.heap_setCell _ _ _ _ hn⟩ hg, (Below.heap_setCell _ _ _ _ (by show P2 ≠ g; omega)).trans h.e2, (Below.heap_setCell _ _ _ _ (by show P2 + 1 ≠ g; omega)).trans h.e3, h1, h3⟩
/-- the bytes that are read, so far -/
def datU (D : List Int) (n : Nat) : Fin 16 → Int := fun i => if i.1 < n then D.getD i 0 else 0
theorem datU_step (k l s : Int) (D : List Int) (n : Nat) (hn : n < 16) : (⟨k, l, s, datU D n⟩ : Ent).arr.setIfInBounds (3 + n) (.int .u8 (D.getD n 0)) = (⟨k, l, s, datU D (n + 1)⟩ : Ent).arr := by
  apply Array.ext_getElem?
  intro j
  rw [Array.getElem?_setIfInBounds]
  simp only [Ent.arr, Ent.cells, Ent.data, List.getElem?_toArray, List.size_toArray, List.length_cons, List.length_ofFn]
  match j with
  | 0 => rw [if_neg (by omega)]; rfl
  | 1 => rw [if_neg (by omega)]; rfl
  | 2 => rw [if_neg (by omega)]; rfl
  | j + 3 =>
    simp only [List.getElem?_cons_succ, List.getElem?_ofFn]
    by_cases hj : j = n
    · subst hj
      rw [if_pos (by omega), if_pos (by omega), dif_pos hn]
      simp [datU]
    · rw [if_neg (by omega)]
      by_cases hj16 : j < 16
      · rw [dif_pos hj16, dif_pos hj16]
        unfold datU
        simp only
        congr 2
        by_cases h : j < n
        · rw [if_pos h, if_pos (by omega)]
        · rw [if_neg h, if_neg (by omega)]
      · rw [dif_neg hj16, dif_neg hj16]
theorem datU_all (D : List Int) : datU D 16 = datL D := by
  funext i
  exact if_pos i.2
end Go.Proofs.Ytibileffpgnjhaa.Base
namespace Go.Proofs.Ytibileffpgnjhaa.Base
open Go.RowKit Go.Proofs.YtibileffpgnjhaaW.PrintWords Go.Proofs.YtibileffpgnjhaaW.PrintLast
set_option linter.unusedSimpArgs false
set_option linter.unusedVariables false
attribute [local go_sem] Ent.arr0 Ent.arr1 Ent.arr2 Ent.set1 Ent.set2 Ent.arr_size Ent.okW Ent.lit run_ldV_ent run_stV_ent ldR_some stR_true rd_new_whole rd_alloc canW_new canW_alloc wr_new wr_alloc rd_drew rd_drewN canW_drew canW_drewN run_bsS_ent run_bsS_ent0 run_eqI_ent rd_setCell rd_setCell_same canW_setCell' Option.map_some cell_wr_other rd_wr_same rd_wr_other
attribute [local go_sem ↓] ldV_ent stV_ent bsS_ent eqI_ent
attribute [local go_sem] Ent.arr0g Ent.arr1g Ent.arr2g run_ldV_dat rd_dat run_eqI_dat dat_lit
attribute [local go_sem ↓] ldV_dat eqI_dat
attribute [local go_sem] run_bdE4 run_bdE3 run_bdE1 run_bdE0
attribute [local go_sem ↓] build_ent
instance (n : Int) : Decidable (I64 n) := by unfold I64; exact inferInstance
def zeroE : Ent := { k := 0, l := 0, s := 0, d := fun _ => 0 }
def rowsE (s u a : Int) (es : List Ent) (n : Nat) : List (List Int) := (List.range n).map fun (i : Nat) => bytesE s u a (i : Int) (es.getD i zeroE)
theorem rowsE_len (s u a : Int) (es : List Ent) (n : Nat) : (rowsE s u a es n).length = n := by simp [rowsE]
theorem rowsE_succ (s u a : Int) (es : List Ent) (n : Nat) : rowsE s u a es (n + 1) = rowsE s u a es n ++ [bytesE s u a (n : Int) (es.getD n zeroE)] := by simp [rowsE, List.range_succ]
/-- what the document's parities are called for, and answer -/
def ParC (f : Nat) (L : List (List Int)) (p q : List Int) : Prop :=
  ∀ (A : Option Addr) (c : Nat) (w : World), Kd.C (Kd.slice 5 (Kd.int .u8)) w A L.length L → L.length ≤ c →
    Calls Try.prog f #[.slice A L.length c] w fun e w' => ∃ v0 v1 : Value, e = .returned (.tuple #[v0, v1]) ∧ (∃ ok, Kd.R (Kd.int .u8) 5 w' w.heap.size ok v0 p) ∧ (∃ ok, Kd.R (Kd.int .u8) 5 w' w.heap.size ok v1 q) ∧ Below w.heap.size w w'
end Go.Proofs.Ytibileffpgnjhaa.Base
