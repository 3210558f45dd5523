/-
  Parts of a proof, laid together by a program of mine (pack.py): PRrx2, PRrx3, Co, Cw, Cd, Rr, Gx, Pc, Rf, Rd, Vw.
-/
import Derived.IntWalk
import Derived.Laws.BitsLemmas
import Derived.Test.YtodbmgafejclmaaZD16
namespace Go.Proofs.Ytodbmgafejclmaa.PRr
open Go.RowKit Go.Proofs.YtodbmgafejclmaaW.PrintWords Go.Proofs.YtodbmgafejclmaaW.PrintLast Go.Proofs.YtodbmgafejclmaaW.PrintMore
attribute [local go_sem] max2_int min2_int max_two min_two max_three min_three max_four min_four -- for this text's walks alone
set_option linter.unusedVariables false
set_option linter.unusedSimpArgs false
mutual
noncomputable def ramekinref5_Parity.l0 : Nat → List (List Int) → List Int → List Int → Int → Option (List Int × List Int)
  | 0, _, _, _, _ => none
  | k + 1, x0, x4, x5, x6 => if x6 < (x0.length : Int) then ((ramekinref2_Exp.f x6).bind fun t119 => (ramekinref5_Parity.l1 k x0 x4 x5 x6 t119 0)) else (some (x4, x5))
noncomputable def ramekinref5_Parity.l1 : Nat → List (List Int) → List Int → List Int → Int → Int → Int → Option (List Int × List Int)
  | 0, _, _, _, _, _, _ => none
  | k + 1, x0, x4, x5, x6, x7, x8 => if 0 ≤ x6 then (if x6 < (x0.length : Int) then (if x8 < ((rd_L1 x0 x6).length : Int) then (if 0 ≤ x8 then (if x8 < (x4.length : Int) then (if x8 < (x5.length : Int) then ((ramekinref2_Mul.f x7 (rd (rd_L1 x0 x6) x8)).bind fun t128 => (ramekinref5_Parity.l1 k x0 (x4.set (x8 : Int).toNat (Go.bits .xor .u8 (rd x4 x8) (rd (rd_L1 x0 x6) x8))) (x5.set (x8 : Int).toNat (Go.bits .xor .u8 (rd x5 x8) t128)) x6 x7 (wrap64 (x8 + 1)))) else (none)) else (none)) else (none)) else (ramekinref5_Parity.l0 k x0 x4 x5 (wrap64 (x6 + 1)))) else (none)) else (none)
end
noncomputable def ramekinref5_Parity.f (k : Nat) (l0 : List (List Int)) : Option (List Int × List Int) := (ramekinref5_even.f l0 2 14).bind fun t110 => (if t110 = true then (if 0 < (l0.length : Int) then (if 0 ≤ ((rd_L1 l0 0).length : Int) then (if (((rd_L1 l0 0).length : Int) : Int).toNat ≤ 281474976710656 then (ramekinref5_Parity.l0 k l0 (List.replicate (((rd_L1 l0 0).length : Int) : Int).toNat 0) (List.replicate (((rd_L1 l0 0).length : Int) : Int).toNat 0) 0) else (none)) else (none)) else (none)) else (some (([] : List Int), ([] : List Int))))
def ramekinref5_Parity.T3 : Bool × List (List Nat × List Nat) := (true, [([], []), ([0], [0]), ([1], [1]), ([2], [2]), ([3, 3], [3]), ([], []), ([5], [5]), ([6], [6]), ([7], [7]), ([8, 8], [8]), ([4, 0, 1, 2, 3, 4], [4]), ([9, 10, 0, 1, 2, 3, 4, 5, 6, 7, 8, 9, 10], [9])])
def ramekinref5_Parity.B3 : List Nat := [0, 1, 3, 7, 15, 0, 32, 96, 224, 480, 31, 2047]
theorem ramekinref5_Parity.tab3 : rtab .any (opsOf Try.f27 3) = ramekinref5_Parity.T3 := by kernel_rfl
theorem ramekinref5_Parity.bits3 : waitsOk ramekinref5_Parity.T3.2 ramekinref5_Parity.B3 = true := by kernel_rfl
def ramekinref5_Parity.T11 : Bool × List (List Nat × List Nat) := (true, [([], []), ([], []), ([], []), ([], []), ([2, 3], [2, 3]), ([4], [4]), ([], []), ([], []), ([6, 7], [6, 7]), ([8], [8]), ([], []), ([9, 10], [9, 10]), ([11], [11]), ([5, 12], [5, 12]), ([0, 1, 0, 1, 2, 3, 4, 5, 6, 7, 8, 9, 10, 11, 12, 13], [0, 1]), ([14, 13, 0, 1, 2, 3, 4, 5, 6, 7, 8, 9, 10, 11, 12, 13], [13, 14])])
def ramekinref5_Parity.B11 : List Nat := [0, 0, 0, 0, 12, 28, 0, 0, 192, 448, 0, 1984, 4032, 8188, 16383, 32767]
theorem ramekinref5_Parity.tab11 : rtab .any (opsOf Try.f27 11) = ramekinref5_Parity.T11 := by kernel_rfl
theorem ramekinref5_Parity.bits11 : waitsOk ramekinref5_Parity.T11.2 ramekinref5_Parity.B11 = true := by kernel_rfl
def ramekinref5_Parity.T12 : Bool × List (List Nat × List Nat) := (true, [([], []), ([], []), ([], []), ([], []), ([2, 3], [2, 3]), ([4], [4]), ([], []), ([], []), ([], []), ([7, 8], [7, 8]), ([9], [9]), ([], []), ([10, 11], [10, 11]), ([12], [12]), ([6, 13], [6, 13]), ([5, 14], [5, 14]), ([0, 1, 0, 1, 2, 3, 4, 5, 6, 7, 8, 9, 10, 11, 12, 13, 14, 15], [0, 1]), ([16, 15, 14, 0, 1, 2, 3, 4, 5, 6, 7, 8, 9, 10, 11, 12, 13, 14, 15], [15, 16])])
def ramekinref5_Parity.B12 : List Nat := [0, 0, 0, 0, 12, 28, 0, 0, 0, 384, 896, 0, 3968, 8064, 16320, 32764, 65535, 131071]
theorem ramekinref5_Parity.tab12 : rtab .any (opsOf Try.f27 12) = ramekinref5_Parity.T12 := by kernel_rfl
theorem ramekinref5_Parity.bits12 : waitsOk ramekinref5_Parity.T12.2 ramekinref5_Parity.B12 = true := by kernel_rfl
set_option maxHeartbeats 8000000 in
set_option maxRecDepth 100000 in
theorem ramekinref5_Parity.calls (k : Nat) (A0 : Option Addr) (c0 : Nat) (l0 : List (List Int)) (r1 : List Int) (r2 : List Int) (w : World) (hr0 : Kd.C (Kd.slice 5 (Kd.int .u8)) w A0 l0.length l0) (hc0 : l0.length ≤ c0) (h : ramekinref5_Parity.f k l0 = some (r1, r2)) :
    Calls Try.prog 27 #[.slice A0 l0.length c0] w fun e w' => ∃ v0_ v1_ : Value, e = .returned (.tuple #[v0_, v1_]) ∧ Kd.R (Kd.int .u8) 5 w' w.heap.size (fun k_ => some k_ ≠ (v1_ : Value).ownBlock) v0_ r1 ∧ Kd.R (Kd.int .u8) 5 w' w.heap.size (fun k_ => some k_ ≠ (v0_ : Value).ownBlock) v1_ r2 ∧ Below w.heap.size w w' := by
  have HR0 := Aside0.mk hr0
  have HC0 := Aside0.mk hc0
  clear hr0 hc0
  have HB := Aside0.mk (Below.refl w.heap.size w)
  have H : ((ramekinref5_even.f l0 2 14).bind fun t110 => (if t110 = true then (if 0 < (l0.length : Int) then (if 0 ≤ ((rd_L1 l0 0).length : Int) then (if (((rd_L1 l0 0).length : Int) : Int).toNat ≤ 281474976710656 then (ramekinref5_Parity.l0 k l0 (List.replicate (((rd_L1 l0 0).length : Int) : Int).toNat 0) (List.replicate (((rd_L1 l0 0).length : Int) : Int).toNat 0) 0) else (none)) else (none)) else (none)) else (some (([] : List Int), ([] : List Int))))) = some (r1, r2) := h
  clear h
  replace H := Option.bind_eq_some_iff.mp H
  obtain ⟨t110, A20, H⟩ := H
  replace H : (if t110 = true then (if 0 < (l0.length : Int) then (if 0 ≤ ((rd_L1 l0 0).length : Int) then (if (((rd_L1 l0 0).length : Int) : Int).toNat ≤ 281474976710656 then (ramekinref5_Parity.l0 k l0 (List.replicate (((rd_L1 l0 0).length : Int) : Int).toNat 0) (List.replicate (((rd_L1 l0 0).length : Int) : Int).toNat 0) 0) else (none)) else (none)) else (none)) else (some (([] : List Int), ([] : List Int)))) = some (r1, r2) := H
  have A2 := Aside0.mk A20
  clear A20
  by_cases c3 : t110 = true
  · subst c3
    have H1 : (if 0 < (l0.length : Int) then (if 0 ≤ ((rd_L1 l0 0).length : Int) then (if (((rd_L1 l0 0).length : Int) : Int).toNat ≤ 281474976710656 then (ramekinref5_Parity.l0 k l0 (List.replicate (((rd_L1 l0 0).length : Int) : Int).toNat 0) (List.replicate (((rd_L1 l0 0).length : Int) : Int).toNat 0) 0) else (none)) else (none)) else (none)) = some (r1, r2) := by rw [if_pos rfl] at H; exact H
    clear H
    have H := H1
    clear H1
    by_cases c4 : 0 < (l0.length : Int)
    · rw [if_pos c4] at H
      have c4b0 : decide (0 < (l0.length : Int)) = true := decide_eq_true c4
      have c4b1 : decide (0 < l0.length) = true := decide_eq_true (by omega)
      clear c4
      by_cases c5 : 0 ≤ ((rd_L1 l0 0).length : Int)
      · rw [if_pos c5] at H
        have c5b0 := eq_true c5
        have c5b1 : decide (0 ≤ ((rd_L1 l0 0).length : Int)) = true := decide_eq_true c5
        clear c5
        by_cases c6 : (((rd_L1 l0 0).length : Int) : Int).toNat ≤ 281474976710656
        · rw [if_pos c6] at H
          have c6b0 := eq_true c6
          have c6b1 : decide ((((rd_L1 l0 0).length : Int) : Int).toNat ≤ 281474976710656) = true := decide_eq_true c6
          clear c6
          obtain ⟨y112, hy112⟩ : ∃ y_ : List Int, y_ = (List.replicate (((rd_L1 l0 0).length : Int) : Int).toNat 0) := ⟨_, rfl⟩
          replace H : (ramekinref5_Parity.l0 k l0 y112 (List.replicate (((rd_L1 l0 0).length : Int) : Int).toNat 0) 0) = some (r1, r2) := by first | (rw [hy112]; with_reducible exact H) | (have H2_ := (Option.bind_some _ _).symm.trans H; rw [hy112]; with_reducible exact H2_) | (have H2_ := (Option.bind_some _ _).symm.trans H; with_reducible exact H2_) | with_reducible exact H | (rw [hy112]; exact H) | exact H
          have Ny112 := Aside0.mk hy112
          clear hy112
          obtain ⟨y116, hy116⟩ : ∃ y_ : List Int, y_ = (List.replicate (((rd_L1 l0 0).length : Int) : Int).toNat 0) := ⟨_, rfl⟩
          replace H : (ramekinref5_Parity.l0 k l0 y112 y116 0) = some (r1, r2) := by first | (rw [hy116]; with_reducible exact H) | (have H2_ := (Option.bind_some _ _).symm.trans H; rw [hy116]; with_reducible exact H2_) | (have H2_ := (Option.bind_some _ _).symm.trans H; with_reducible exact H2_) | with_reducible exact H | (rw [hy116]; exact H) | exact H
          have Ny116 := Aside0.mk hy116
          clear hy116
          have H' := Aside0.mk H
          clear H
          go_enter Try.func27, Try.ntmps27
          try go_wp2_with (first | ((with_reducible refine gate_callee (f := 39) rfl ?_); refine goesL_ (some 10) rfl rfl Try.func39 (by kernel_rfl) rfl #[.slice A0 l0.length c0, .int .i64 2, .int .i64 14] rfl (by (try simp only [List.map_toArray, List.map_cons, List.map_nil]); first | done | rfl | (simp only [List.length_drop, List.length_take]; rfl)) ?_; (with_reducible refine (ramekinref5_even.calls _ _ l0 2 14 true _ ?side1 ?side2 A2.out).mono ?_); (case side1 => repeat (first | exact HR0.out | (with_reducible refine Kd.C_alloc ?_ _) | (with_reducible refine Kd.C_drewN ?_ _) | (with_reducible refine Kd.C_drew ?_))); (case side2 => exact HC0.out); rintro e w7 ⟨rfl, hb⟩; refine ⟨_, rfl, ?_⟩; have n0_ := Aside0.mk (below_step (by repeat (first | (with_reducible first | exact HB.out | apply below_alloc | apply pw_below_drewN | apply below_drew1) | exact HB.out)) hb); clear HB; have HB := n0_; clear n0_; (try clear hb); (try clear hb2); (try clear hk); (try clear hi)))
          have n0_ := Aside0.mk (below_drew1 HB.out)
          clear HB
          have HB := n0_
          clear n0_
          have p111 : 0 ≤ (0 : Int) := (by omega)
          have q111 : 0 < (l0.length : Int) := of_decide_eq_true (by first | (with_reducible assumption) | assumption)
          obtain ⟨ad111, A111_0, c111_0, e111, hx111_0, hl111_0, hi111_0⟩ := at_L1 HR0.out 0 p111 q111
          have hw111_0 := hx111_0
          (try rw [show ((0 : Int)).toNat = 0 from rfl] at hw111_0)
          (try rw [show 0 * 1 = 0 from rfl] at hw111_0)
          (try rw [Addr.add_zero'] at hw111_0)
          cases e111
          have qi111 : (0 < l0.length) = True := eq_true (by omega)
          (try rw [show ((0 : Int)).toNat = 0 from rfl] at hx111_0)
          (try rw [Addr.add_zero'] at hx111_0)
          replace hx111_0 := (HB.out.cell (World.block_lt_of_cell? w _ hx111_0)).trans hx111_0
          have HR111_0 := Aside0.mk hi111_0
          have HC111_0 := Aside0.mk hl111_0
          clear hi111_0 hl111_0
          replace p111 := eq_true p111
          replace q111 := eq_true q111
          have p115 : 0 ≤ (0 : Int) := (by omega)
          have q115 : 0 < (l0.length : Int) := of_decide_eq_true (by first | (with_reducible assumption) | assumption)
          obtain ⟨ad115, A115_0, c115_0, e115, hx115_0, hl115_0, hi115_0⟩ := at_L1 HR0.out 0 p115 q115
          have hw115_0 := hx115_0
          (try rw [show ((0 : Int)).toNat = 0 from rfl] at hw115_0)
          (try rw [show 0 * 1 = 0 from rfl] at hw115_0)
          (try rw [Addr.add_zero'] at hw115_0)
          obtain rfl : ad111 = ad115 := (by injection e115)
          have qi115 : (0 < l0.length) = True := eq_true (by omega)
          (try rw [show ((0 : Int)).toNat = 0 from rfl] at hx115_0)
          (try rw [Addr.add_zero'] at hx115_0)
          replace hx115_0 := (HB.out.cell (World.block_lt_of_cell? w _ hx115_0)).trans hx115_0
          have HR115_0 := Aside0.mk hi115_0
          have HC115_0 := Aside0.mk hl115_0
          clear hi115_0 hl115_0
          replace p115 := eq_true p115
          replace q115 := eq_true q115
          have ea_ := Option.some.inj (hx111_0.symm.trans hx115_0)
          injection ea_ with ea_ en_ ec_
          subst ea_
          subst ec_
          clear en_
          refine start_ (n := 12) (S := fun w' => w'.cell? ad111 = some (.slice A111_0 (rd_L1 l0 0).length c111_0) ∧ w'.cell? ad111 = some (.slice A111_0 (rd_L1 l0 0).length c111_0)) (ds := []) #[false, false, false, false, false, false, false, false, false, false, false, false] (by kernel_rfl) rfl rfl ⟨((HB.out.cell (World.block_lt_of_cell? w _ hw111_0)).trans hw111_0), ((HB.out.cell (World.block_lt_of_cell? w _ hw115_0)).trans hw115_0)⟩ (fun hHeld => ?_); refine with_tabW ramekinref5_Parity.tab3 ramekinref5_Parity.bits3 (fun HT_ HW_ => ?_)
          generalize w7.drew = w8 at HB HR111_0 HR115_0 hx111_0 hx115_0 hHeld ⊢
          refine pure_ (i := 0) (N := some 12) (v := ?_) (a' := ?_) #[true, false, false, false, false, false, false, false, false, false, false, false] rfl rfl (any_of HT_.out (by kernel_rfl)) (fun _ _ _ h => h) (Or.inl ⟨by rfl, ?_⟩) ?_ ?_
          rotate_left
          · intro w'
            go_simp
            with_reducible rfl
          rotate_left
          · simp only [Act.put, List.setIfInBounds_toArray, List.set_cons_zero, List.set_cons_succ, i64_w, i32_w]
            rfl
          refine pure_ (i := 1) (N := some 13) (v := ?_) (a' := ?_) #[true, true, false, false, false, false, false, false, false, false, false, false] rfl rfl (any_of HT_.out (by kernel_rfl)) (fun _ _ _ h => h) (Or.inl ⟨by rfl, ?_⟩) ?_ ?_
          rotate_left
          · intro w'
            go_simp
            with_reducible rfl
          rotate_left
          · simp only [Act.put, List.setIfInBounds_toArray, List.set_cons_zero, List.set_cons_succ, i64_w, i32_w]
            rfl
          refine pure_ (i := 5) (N := some 17) (v := ?_) (a' := ?_) #[true, true, false, false, false, true, false, false, false, false, false, false] rfl rfl (any_of HT_.out (by kernel_rfl)) (fun _ _ _ h => h) (Or.inl ⟨by rfl, ?_⟩) ?_ ?_
          rotate_left
          · intro w'
            go_simp
            with_reducible rfl
          rotate_left
          · simp only [Act.put, List.setIfInBounds_toArray, List.set_cons_zero, List.set_cons_succ, i64_w, i32_w]
            rfl
          refine pure_ (i := 6) (N := some 18) (v := ?_) (a' := ?_) #[true, true, false, false, false, true, true, false, false, false, false, false] rfl rfl (any_of HT_.out (by kernel_rfl)) (fun _ _ _ h => h) (Or.inl ⟨by rfl, ?_⟩) ?_ ?_
          rotate_left
          · intro w'
            go_simp
            with_reducible rfl
          rotate_left
          · simp only [Act.put, List.setIfInBounds_toArray, List.set_cons_zero, List.set_cons_succ, i64_w, i32_w]
            rfl
          refine take_ (i := 2) (N := some 14) (v := ?_) (a' := ?_) #[true, true, true, false, false, true, true, false, false, false, false, false] rfl rfl (take_ofW HT_.out HW_.out (by kernel_rfl)) (fun _ _ _ h => h) (Or.inl ⟨by rfl, ?_⟩) hHeld ?_ ?_
          rotate_left
          · rintro w' ⟨s0, s1⟩
            go_simp
            with_reducible rfl
          rotate_left
          · simp only [Act.put, List.setIfInBounds_toArray, List.set_cons_zero, List.set_cons_succ, i64_w, i32_w]
            rfl
          refine pure_ (i := 3) (N := some 15) (v := ?_) (a' := ?_) #[true, true, true, true, false, true, true, false, false, false, false, false] rfl rfl (any_of HT_.out (by kernel_rfl)) (fun _ _ _ h => h) (Or.inl ⟨by rfl, ?_⟩) ?_ ?_
          rotate_left
          · intro w'
            go_simp
            with_reducible rfl
          rotate_left
          · simp only [Act.put, List.setIfInBounds_toArray, List.set_cons_zero, List.set_cons_succ, i64_w, i32_w]
            rfl
          refine take_ (i := 7) (N := some 19) (v := ?_) (a' := ?_) #[true, true, true, true, false, true, true, true, false, false, false, false] rfl rfl (take_ofW HT_.out HW_.out (by kernel_rfl)) (fun _ _ _ h => h) (Or.inl ⟨by rfl, ?_⟩) hHeld ?_ ?_
          rotate_left
          · rintro w' ⟨s0, s1⟩
            go_simp
            with_reducible rfl
          rotate_left
          · simp only [Act.put, List.setIfInBounds_toArray, List.set_cons_zero, List.set_cons_succ, i64_w, i32_w]
            rfl
          refine pure_ (i := 8) (N := some 20) (v := ?_) (a' := ?_) #[true, true, true, true, false, true, true, true, true, false, false, false] rfl rfl (any_of HT_.out (by kernel_rfl)) (fun _ _ _ h => h) (Or.inl ⟨by rfl, ?_⟩) ?_ ?_
          rotate_left
          · intro w'
            go_simp
            with_reducible rfl
          rotate_left
          · simp only [Act.put, List.setIfInBounds_toArray, List.set_cons_zero, List.set_cons_succ, i64_w, i32_w]
            rfl
          refine join_ (σ := Value × Value) 1 #[true, true, true, true, true, true, true, true, true, true, true, false] (fun s_ => [(16, s_.1), (21, s_.2), (4, s_.1)]) (fun s_ w' => (w'.cell? ad111 = some (.slice A111_0 (rd_L1 l0 0).length c111_0) ∧ w'.cell? ad111 = some (.slice A111_0 (rd_L1 l0 0).length c111_0)) ∧ (Kd.R (Kd.int .u8) 5 w' w.heap.size (fun k_ => some k_ ≠ (s_.2 : Value).ownBlock) s_.1 y112) ∧ (Kd.R (Kd.int .u8) 5 w' w.heap.size (fun k_ => some k_ ≠ (s_.1 : Value).ownBlock) s_.2 y116) ∧ (Below w.heap.size w w')) ?_ ?_
          rotate_left
          · intro hCont
            refine two_ (i := 4) (j := 9) (Ni := some 16) (Nj := some 21) #[true, true, true, true, true, true, true, true, true, false, false, false] #[true, true, true, true, false, true, true, true, true, true, false, false] rfl rfl rfl rfl (two_of HT_.out (by kernel_rfl)) (by decide) (by decide) (fun K hK => ?_) (fun K hK => ?_)
            · skip
              refine Kd.R_make_step (Kd.int .u8) _ 5 (by rfl) (N := 16) rfl 24 _ _ rfl ((rd_L1 l0 0).length : Int) rfl rfl Try.underlying24 (.int .u8 0) 1 info5 rfl (by decide) (by omega) 0 (ok := fun _ => True) (okp := fun _ => True) rfl (fun _ hk => hk) trivial (of_decide_eq_true (by first | (with_reducible assumption) | assumption)) (Nat.le_trans (Nat.mul_le_mul_right _ (of_decide_eq_true (by first | (with_reducible assumption) | assumption) : ((rd_L1 l0 0).length : Int).toNat ≤ 281474976710656)) (by omega)) (Below.refl _ _) (Nat.le_refl _) ?_
              intro v113 w9 ho10 hb hg_ hnew_
              clear hg_ hnew_
              (first | rw [← Ny112.out] at ho10 | (simp only [Int.reduceToNat] at ho10; rw [← Ny112.out] at ho10))
              have n0_ := Aside0.mk (Kd.R_lower ho10 (below_size (by repeat (first | (with_reducible first | exact HB.out | apply below_alloc | apply pw_below_drewN | apply below_drew1) | exact HB.out))))
              have n1_ := Aside0.mk (below_step (by repeat (first | (with_reducible first | exact HB.out | apply below_alloc | apply pw_below_drewN | apply below_drew1) | exact HB.out)) hb)
              clear HB
              have HO114 := n0_
              have HB := n1_
              clear n0_ n1_
              clear hb ho10
              refine hK.out _ _ ⟨((HB.out.cell (World.block_lt_of_cell? w _ hw111_0)).trans hw111_0), ((HB.out.cell (World.block_lt_of_cell? w _ hw115_0)).trans hw115_0)⟩ (fun hHeld => ?_)
              clear hK K
              refine norm_ (a' := ?_) ?_ ?_
              rotate_left
              · show Act.put _ (some 16) _ = _
                simp only [Act.put, List.setIfInBounds_toArray, List.set_cons_zero, List.set_cons_succ, i64_w, i32_w]
                rfl
              refine pure_ (i := 10) (N := some 4) (v := ?_) (a' := ?_) #[true, true, true, true, true, true, true, true, true, false, true, false] rfl rfl (any_of HT_.out (by kernel_rfl)) (fun _ _ _ h => h) (Or.inl ⟨by rfl, ?_⟩) ?_ ?_
              rotate_left
              · intro w'
                go_simp
                with_reducible rfl
              rotate_left
              · simp only [Act.put, List.setIfInBounds_toArray, List.set_cons_zero, List.set_cons_succ, i64_w, i32_w]
                rfl
              refine one_ (i := 9) (N := some 21) #[true, true, true, true, true, true, true, true, true, true, true, false] rfl rfl (one_of HT_.out (by kernel_rfl)) (by decide) (fun K hK => ?_)
              refine Kd.R_make_step (Kd.int .u8) _ 5 (by rfl) (N := 21) rfl 24 _ _ rfl ((rd_L1 l0 0).length : Int) rfl rfl Try.underlying24 (.int .u8 0) 1 info5 rfl (by decide) (by omega) 0 (ok := fun _ => True) (okp := fun _ => True) rfl (fun _ hk => hk) trivial (of_decide_eq_true (by first | (with_reducible assumption) | assumption)) (Nat.le_trans (Nat.mul_le_mul_right _ (of_decide_eq_true (by first | (with_reducible assumption) | assumption) : ((rd_L1 l0 0).length : Int).toNat ≤ 281474976710656)) (by omega)) (Below.refl _ _) (Nat.le_refl _) ?_
              intro v117 w11 ho12 hb hg_ hnew_
              clear hg_ hnew_
              (first | rw [← Ny116.out] at ho12 | (simp only [Int.reduceToNat] at ho12; rw [← Ny116.out] at ho12))
              have n0_ := Aside0.mk (Kd.R_elder' (by (with_reducible repeat (first | apply Kd.R_alloc | apply Kd.R_drewN | apply Kd.R_drew)); exact HO114.out) (Kd.R_base ho12) hb)
              have n1_ := Aside0.mk (Kd.R_lower (Kd.R_new' ho12 (Kd.R_lt (by (with_reducible repeat (first | apply Kd.R_alloc | apply Kd.R_drewN | apply Kd.R_drew)); exact HO114.out))) (below_size (by repeat (first | (with_reducible first | exact HB.out | apply below_alloc | apply pw_below_drewN | apply below_drew1) | exact HB.out))))
              have n2_ := Aside0.mk (below_step (by repeat (first | (with_reducible first | exact HB.out | apply below_alloc | apply pw_below_drewN | apply below_drew1) | exact HB.out)) hb)
              clear HO114
              clear HB
              have HO114 := n0_
              have HO118 := n1_
              have HB := n2_
              clear n0_ n1_ n2_
              clear hb ho12
              refine hK.out _ _ ⟨((HB.out.cell (World.block_lt_of_cell? w _ hw111_0)).trans hw111_0), ((HB.out.cell (World.block_lt_of_cell? w _ hw115_0)).trans hw115_0)⟩ (fun hHeld => ?_)
              clear hK K
              refine norm_ (a' := ?_) ?_ ?_
              rotate_left
              · show Act.put _ (some 21) _ = _
                simp only [Act.put, List.setIfInBounds_toArray, List.set_cons_zero, List.set_cons_succ, i64_w, i32_w]
                rfl
              exact norm_ (by simp only [putAll, Act.put, List.setIfInBounds_toArray, List.set_cons_zero, List.set_cons_succ]) (hCont (v113, v117) _ ⟨hHeld, (by (with_reducible repeat (first | apply Kd.R_alloc | apply Kd.R_drewN | apply Kd.R_drew)); exact Kd.R_mono HO114.out (fun _ hk => hk.2)), (by (with_reducible repeat (first | apply Kd.R_alloc | apply Kd.R_drewN | apply Kd.R_drew)); exact Kd.R_mono HO118.out (fun _ hk => hk.2)), (by repeat (first | (with_reducible first | exact HB.out | apply below_alloc | apply pw_below_drewN | apply below_drew1) | exact HB.out))⟩)
            · skip
              refine Kd.R_make_step (Kd.int .u8) _ 5 (by rfl) (N := 21) rfl 24 _ _ rfl ((rd_L1 l0 0).length : Int) rfl rfl Try.underlying24 (.int .u8 0) 1 info5 rfl (by decide) (by omega) 0 (ok := fun _ => True) (okp := fun _ => True) rfl (fun _ hk => hk) trivial (of_decide_eq_true (by first | (with_reducible assumption) | assumption)) (Nat.le_trans (Nat.mul_le_mul_right _ (of_decide_eq_true (by first | (with_reducible assumption) | assumption) : ((rd_L1 l0 0).length : Int).toNat ≤ 281474976710656)) (by omega)) (Below.refl _ _) (Nat.le_refl _) ?_
              intro v117 w9 ho10 hb hg_ hnew_
              clear hg_ hnew_
              (first | rw [← Ny116.out] at ho10 | (simp only [Int.reduceToNat] at ho10; rw [← Ny116.out] at ho10))
              have n0_ := Aside0.mk (Kd.R_lower ho10 (below_size (by repeat (first | (with_reducible first | exact HB.out | apply below_alloc | apply pw_below_drewN | apply below_drew1) | exact HB.out))))
              have n1_ := Aside0.mk (below_step (by repeat (first | (with_reducible first | exact HB.out | apply below_alloc | apply pw_below_drewN | apply below_drew1) | exact HB.out)) hb)
              clear HB
              have HO118 := n0_
              have HB := n1_
              clear n0_ n1_
              clear hb ho10
              refine hK.out _ _ ⟨((HB.out.cell (World.block_lt_of_cell? w _ hw111_0)).trans hw111_0), ((HB.out.cell (World.block_lt_of_cell? w _ hw115_0)).trans hw115_0)⟩ (fun hHeld => ?_)
              clear hK K
              refine norm_ (a' := ?_) ?_ ?_
              rotate_left
              · show Act.put _ (some 21) _ = _
                simp only [Act.put, List.setIfInBounds_toArray, List.set_cons_zero, List.set_cons_succ, i64_w, i32_w]
                rfl
              refine one_ (i := 4) (N := some 16) #[true, true, true, true, true, true, true, true, true, true, false, false] rfl rfl (one_of HT_.out (by kernel_rfl)) (by decide) (fun K hK => ?_)
              refine Kd.R_make_step (Kd.int .u8) _ 5 (by rfl) (N := 16) rfl 24 _ _ rfl ((rd_L1 l0 0).length : Int) rfl rfl Try.underlying24 (.int .u8 0) 1 info5 rfl (by decide) (by omega) 0 (ok := fun _ => True) (okp := fun _ => True) rfl (fun _ hk => hk) trivial (of_decide_eq_true (by first | (with_reducible assumption) | assumption)) (Nat.le_trans (Nat.mul_le_mul_right _ (of_decide_eq_true (by first | (with_reducible assumption) | assumption) : ((rd_L1 l0 0).length : Int).toNat ≤ 281474976710656)) (by omega)) (Below.refl _ _) (Nat.le_refl _) ?_
              intro v113 w11 ho12 hb hg_ hnew_
              clear hg_ hnew_
              (first | rw [← Ny112.out] at ho12 | (simp only [Int.reduceToNat] at ho12; rw [← Ny112.out] at ho12))
              have n0_ := Aside0.mk (Kd.R_elder' (by (with_reducible repeat (first | apply Kd.R_alloc | apply Kd.R_drewN | apply Kd.R_drew)); exact HO118.out) (Kd.R_base ho12) hb)
              have n1_ := Aside0.mk (Kd.R_lower (Kd.R_new' ho12 (Kd.R_lt (by (with_reducible repeat (first | apply Kd.R_alloc | apply Kd.R_drewN | apply Kd.R_drew)); exact HO118.out))) (below_size (by repeat (first | (with_reducible first | exact HB.out | apply below_alloc | apply pw_below_drewN | apply below_drew1) | exact HB.out))))
              have n2_ := Aside0.mk (below_step (by repeat (first | (with_reducible first | exact HB.out | apply below_alloc | apply pw_below_drewN | apply below_drew1) | exact HB.out)) hb)
              clear HO118
              clear HB
              have HO118 := n0_
              have HO114 := n1_
              have HB := n2_
              clear n0_ n1_ n2_
              clear hb ho12
              refine hK.out _ _ ⟨((HB.out.cell (World.block_lt_of_cell? w _ hw111_0)).trans hw111_0), ((HB.out.cell (World.block_lt_of_cell? w _ hw115_0)).trans hw115_0)⟩ (fun hHeld => ?_)
              clear hK K
              refine norm_ (a' := ?_) ?_ ?_
              rotate_left
              · show Act.put _ (some 16) _ = _
                simp only [Act.put, List.setIfInBounds_toArray, List.set_cons_zero, List.set_cons_succ, i64_w, i32_w]
                rfl
              refine pure_ (i := 10) (N := some 4) (v := ?_) (a' := ?_) #[true, true, true, true, true, true, true, true, true, true, true, false] rfl rfl (any_of HT_.out (by kernel_rfl)) (fun _ _ _ h => h) (Or.inl ⟨by rfl, ?_⟩) ?_ ?_
              rotate_left
              · intro w'
                go_simp
                with_reducible rfl
              rotate_left
              · simp only [Act.put, List.setIfInBounds_toArray, List.set_cons_zero, List.set_cons_succ, i64_w, i32_w]
                rfl
              exact norm_ (by simp only [putAll, Act.put, List.setIfInBounds_toArray, List.set_cons_zero, List.set_cons_succ]) (hCont (v113, v117) _ ⟨hHeld, (by (with_reducible repeat (first | apply Kd.R_alloc | apply Kd.R_drewN | apply Kd.R_drew)); exact Kd.R_mono HO114.out (fun _ hk => hk.2)), (by (with_reducible repeat (first | apply Kd.R_alloc | apply Kd.R_drewN | apply Kd.R_drew)); exact Kd.R_mono HO118.out (fun _ hk => hk.2)), (by repeat (first | (with_reducible first | exact HB.out | apply below_alloc | apply pw_below_drewN | apply below_drew1) | exact HB.out))⟩)
          rintro ⟨v113, v117⟩ w13 ⟨hS_, h0_, h1_, h2_⟩
          have n0_ : Aside0 (Kd.R (Kd.int .u8) 5 w13 w.heap.size (fun k_ => some k_ ≠ (v117 : Value).ownBlock) v113 y112) := ⟨h0_⟩
          have n1_ : Aside0 (Kd.R (Kd.int .u8) 5 w13 w.heap.size (fun k_ => some k_ ≠ (v113 : Value).ownBlock) v117 y116) := ⟨h1_⟩
          have n2_ : Aside0 (Below w.heap.size w w13) := ⟨h2_⟩
          clear HB
          clear h0_ h1_ h2_
          have HO114 := n0_
          have HO118 := n1_
          have HB := n2_
          clear n0_ n1_ n2_
          have hHeld : w13.cell? ad111 = some (.slice A111_0 (rd_L1 l0 0).length c111_0) ∧ w13.cell? ad111 = some (.slice A111_0 (rd_L1 l0 0).length c111_0) := hS_
          refine norm_ (a' := ?_) ?_ ?_
          rotate_left
          · simp only [putAll, Act.put, List.setIfInBounds_toArray, List.set_cons_zero, List.set_cons_succ]
            rfl
          refine pure_ (i := 11) (N := some 5) (v := ?_) (a' := ?_) #[true, true, true, true, true, true, true, true, true, true, true, true] rfl rfl (any_of HT_.out (by kernel_rfl)) (fun _ _ _ h => h) (Or.inl ⟨by rfl, ?_⟩) ?_ ?_
          rotate_left
          · intro w'
            go_simp
            with_reducible rfl
          rotate_left
          · simp only [Act.put, List.setIfInBounds_toArray, List.set_cons_zero, List.set_cons_succ, i64_w, i32_w]
            rfl
          refine done_ (done_of HT_.out (by kernel_rfl)) ?_
          try go_wp2
          go_loopg [6] k (fun kq v6 w' => ∃ (x4_1 : List Int) (x5_1 : List Int) (x6_1 : Int), v6 = .int .i64 x6_1 ∧ Aside0 (ramekinref5_Parity.l0 kq l0 x4_1 x5_1 x6_1 = some (r1, r2)) ∧ Aside0 (kq ≤ k) ∧ Aside0 (Kd.R (Kd.int .u8) 5 w' w.heap.size (fun k_ => some k_ ≠ (v117 : Value).ownBlock) v113 x4_1) ∧ Aside0 (Kd.R (Kd.int .u8) 5 w' w.heap.size (fun k_ => some k_ ≠ (v113 : Value).ownBlock) v117 x5_1) ∧ Aside0 (Below w.heap.size w w'))
          case atStart => exact ⟨(y112), (y116), (0), (by first | rfl | (simp; done) | (simp [*]; done)), H', ⟨Nat.le_refl _⟩, ⟨by (with_reducible repeat (first | apply Kd.R_alloc | apply Kd.R_drewN | apply Kd.R_drew)); exact HO114.out⟩, ⟨by (with_reducible repeat (first | apply Kd.R_alloc | apply Kd.R_drewN | apply Kd.R_drew)); exact HO118.out⟩, ⟨by repeat (first | (with_reducible first | exact HB.out | apply below_alloc | apply pw_below_drewN | apply below_drew1) | exact HB.out)⟩⟩
          case round =>
            clear H'
            try clear c1
            try clear p1
            try clear q1
            try clear hx1
            try clear qi1
            try clear c2
            try clear p2
            try clear c3
            try clear c4
            try clear c4b0
            try clear c4b1
            try clear c5
            try clear c5b0
            try clear c5b1
            try clear c6
            try clear c6b0
            try clear c6b1
            try clear c11
            try clear p11
            try clear q11
            try clear hx11
            try clear qi11
            try clear hx111_0
            try clear hx115_0
            try clear p111
            try clear p115
            try clear q111
            try clear q115
            obtain ⟨x4_1, x5_1, x6_1, rfl, HA, HK1, HO_4, HO_5, HB⟩ := hrel
            cases gk with
            | zero => exact absurd HA.out (by simp [ramekinref5_Parity.l0])
            | succ k1 =>
              have H := HA.out
              clear HA
              simp only [ramekinref5_Parity.l0] at H
              by_cases c14 : x6_1 < (l0.length : Int)
              · rw [if_pos c14] at H
                have c14b0 : decide (x6_1 < (l0.length : Int)) = true := decide_eq_true c14
                clear c14
                replace H := Option.bind_eq_some_iff.mp H
                obtain ⟨t119, A150, H⟩ := H
                replace H : (ramekinref5_Parity.l1 k1 l0 x4_1 x5_1 x6_1 t119 0) = some (r1, r2) := H
                have A15 := Aside0.mk A150
                clear A150
                have H' := Aside0.mk H
                clear H
                go_wp2_with (first | ((with_reducible refine gate_callee (f := 40) rfl ?_); refine goesL_ (some 29) rfl rfl Try.func40 (by kernel_rfl) rfl #[.int .i64 x6_1] rfl (by (try simp only [List.map_toArray, List.map_cons, List.map_nil]); first | done | rfl | (simp only [List.length_drop, List.length_take]; rfl)) ?_; (with_reducible refine (ramekinref2_Exp.calls x6_1 t119 _ A15.out).mono ?_); rintro e w16 ⟨rfl, hb⟩; refine ⟨_, rfl, ?_⟩; have n0_ := Aside0.mk (Kd.R_below (by (with_reducible repeat (first | apply Kd.R_alloc | apply Kd.R_drewN | apply Kd.R_drew)); exact HO_4.out) hb); have n1_ := Aside0.mk (Kd.R_below (by (with_reducible repeat (first | apply Kd.R_alloc | apply Kd.R_drewN | apply Kd.R_drew)); exact HO_5.out) hb); have n2_ := Aside0.mk (below_step (by repeat (first | (with_reducible first | exact HB.out | apply below_alloc | apply pw_below_drewN | apply below_drew1) | exact HB.out)) hb); clear HO_4; clear HO_5; clear HB; have HO_4 := n0_; have HO_5 := n1_; have HB := n2_; clear n0_ n1_ n2_; (try clear hb); (try clear hb2); (try clear hk); (try clear hi)))
                go_loopg [8] k1 (fun kq v8 w' => ∃ (x4_2 : List Int) (x5_2 : List Int) (x8_2 : Int), v8 = .int .i64 x8_2 ∧ Aside0 (ramekinref5_Parity.l1 kq l0 x4_2 x5_2 x6_1 t119 x8_2 = some (r1, r2)) ∧ Aside0 (kq ≤ k1) ∧ Aside0 (Kd.R (Kd.int .u8) 5 w' w.heap.size (fun k_ => some k_ ≠ (v117 : Value).ownBlock) v113 x4_2) ∧ Aside0 (Kd.R (Kd.int .u8) 5 w' w.heap.size (fun k_ => some k_ ≠ (v113 : Value).ownBlock) v117 x5_2) ∧ Aside0 (Below w.heap.size w w'))
                case atStart => exact ⟨(x4_1), (x5_1), (0), (by first | rfl | (simp; done) | (simp [*]; done)), H', ⟨Nat.le_refl _⟩, ⟨by (with_reducible repeat (first | apply Kd.R_alloc | apply Kd.R_drewN | apply Kd.R_drew)); exact HO_4.out⟩, ⟨by (with_reducible repeat (first | apply Kd.R_alloc | apply Kd.R_drewN | apply Kd.R_drew)); exact HO_5.out⟩, ⟨by repeat (first | (with_reducible first | exact HB.out | apply below_alloc | apply pw_below_drewN | apply below_drew1) | exact HB.out)⟩⟩
                case round =>
                  clear H'
                  try clear c1
                  try clear p1
                  try clear q1
                  try clear hx1
                  try clear qi1
                  try clear c2
                  try clear p2
                  try clear c3
                  try clear c4
                  try clear c4b0
                  try clear c4b1
                  try clear c5
                  try clear c5b0
                  try clear c5b1
                  try clear c6
                  try clear c6b0
                  try clear c6b1
                  try clear c11
                  try clear p11
                  try clear q11
                  try clear hx11
                  try clear qi11
                  try clear c14
                  try clear c14b0
                  try clear hx111_0
                  try clear hx115_0
                  try clear p1
                  try clear p11
                  try clear p111
                  try clear p115
                  try clear p2
                  try clear q1
                  try clear q11
                  try clear q111
                  try clear q115
                  obtain ⟨x4_2, x5_2, x8_2, rfl, HA, HK2, HO_4, HO_5, HB⟩ := hrel
                  cases gk with
                  | zero => exact absurd HA.out (by simp [ramekinref5_Parity.l1])
                  | succ k2 =>
                    have H := HA.out
                    clear HA
                    simp only [ramekinref5_Parity.l1] at H
                    by_cases c17 : 0 ≤ x6_1
                    · rw [if_pos c17] at H
                      have c17b0 : decide (0 ≤ x6_1) = true := decide_eq_true c17
                      clear c17
                      by_cases c18 : x6_1 < (l0.length : Int)
                      · rw [if_pos c18] at H
                        have c18b0 : decide (x6_1 < (l0.length : Int)) = true := decide_eq_true c18
                        clear c18
                        by_cases c19 : x8_2 < ((rd_L1 l0 x6_1).length : Int)
                        · rw [if_pos c19] at H
                          have c19b0 : decide (x8_2 < ((rd_L1 l0 x6_1).length : Int)) = true := decide_eq_true c19
                          clear c19
                          by_cases c20 : 0 ≤ x8_2
                          · rw [if_pos c20] at H
                            have c20b0 : decide (0 ≤ x8_2) = true := decide_eq_true c20
                            clear c20
                            by_cases c21 : x8_2 < (x4_2.length : Int)
                            · rw [if_pos c21] at H
                              have c21b0 : decide (x8_2 < (x4_2.length : Int)) = true := decide_eq_true c21
                              clear c21
                              obtain ⟨y124, hy124⟩ : ∃ y_ : List Int, y_ = (x4_2.set (x8_2 : Int).toNat (Go.bits .xor .u8 (rd x4_2 x8_2) (rd (rd_L1 l0 x6_1) x8_2))) := ⟨_, rfl⟩
                              replace H : (if x8_2 < (x5_2.length : Int) then ((ramekinref2_Mul.f t119 (rd (rd_L1 l0 x6_1) x8_2)).bind fun t128 => (ramekinref5_Parity.l1 k2 l0 y124 (x5_2.set (x8_2 : Int).toNat (Go.bits .xor .u8 (rd x5_2 x8_2) t128)) x6_1 t119 (wrap64 (x8_2 + 1)))) else (none)) = some (r1, r2) := by first | (rw [hy124]; with_reducible exact H) | (have H2_ := (Option.bind_some _ _).symm.trans H; rw [hy124]; with_reducible exact H2_) | (have H2_ := (Option.bind_some _ _).symm.trans H; with_reducible exact H2_) | with_reducible exact H | (rw [hy124]; exact H) | exact H
                              have Ny124 := Aside0.mk hy124
                              clear hy124
                              by_cases c23 : x8_2 < (x5_2.length : Int)
                              · rw [if_pos c23] at H
                                have c23b0 : decide (x8_2 < (x5_2.length : Int)) = true := decide_eq_true c23
                                clear c23
                                replace H := Option.bind_eq_some_iff.mp H
                                obtain ⟨t128, A240, H⟩ := H
                                replace H : (ramekinref5_Parity.l1 k2 l0 y124 (x5_2.set (x8_2 : Int).toNat (Go.bits .xor .u8 (rd x5_2 x8_2) t128)) x6_1 t119 (wrap64 (x8_2 + 1))) = some (r1, r2) := H
                                have A24 := Aside0.mk A240
                                clear A240
                                obtain ⟨y129, hy129⟩ : ∃ y_ : List Int, y_ = (x5_2.set (x8_2 : Int).toNat (Go.bits .xor .u8 (rd x5_2 x8_2) t128)) := ⟨_, rfl⟩
                                replace H : (ramekinref5_Parity.l1 k2 l0 y124 y129 x6_1 t119 (wrap64 (x8_2 + 1))) = some (r1, r2) := by first | (rw [hy129]; with_reducible exact H) | (have H2_ := (Option.bind_some _ _).symm.trans H; rw [hy129]; with_reducible exact H2_) | (have H2_ := (Option.bind_some _ _).symm.trans H; with_reducible exact H2_) | with_reducible exact H | (rw [hy129]; exact H) | exact H
                                have Ny129 := Aside0.mk hy129
                                clear hy129
                                have H' := Aside0.mk H
                                clear H
                                have p120 : 0 ≤ (x6_1 : Int) := of_decide_eq_true (by first | (with_reducible assumption) | assumption)
                                have q120 : x6_1 < (l0.length : Int) := of_decide_eq_true (by first | (with_reducible assumption) | assumption)
                                obtain ⟨ad120, A120_0, c120_0, e120, hx120_0, hl120_0, hi120_0⟩ := at_L1 HR0.out x6_1 p120 q120
                                obtain rfl : ad111 = ad120 := (by injection e120)
                                replace hx120_0 := (HB.out.cell (World.block_lt_of_cell? w _ hx120_0)).trans hx120_0
                                have HR120_0 := Aside0.mk hi120_0
                                have HC120_0 := Aside0.mk hl120_0
                                clear hi120_0 hl120_0
                                replace p120 := eq_true p120
                                replace q120 := eq_true q120
                                try go_wp2
                                have n0_ := Aside0.mk (Kd.R_drew HO_4.out)
                                have n1_ := Aside0.mk (Kd.R_drew HO_5.out)
                                have n2_ := Aside0.mk (below_drew1 HB.out)
                                clear HO_4
                                clear HO_5
                                clear HB
                                have HO_4 := n0_
                                have HO_5 := n1_
                                have HB := n2_
                                clear n0_ n1_ n2_
                                obtain ⟨Ao27, co27, eo27⟩ := Kd.R_slice HO_4.out
                                (first | subst eo27 | (injection eo27 with f1_ f2_ f3_; have f4_ := f1_.symm; have f5_ := f3_.symm; clear f1_ f2_ f3_; subst f4_; subst f5_))
                                have p121 : 0 ≤ (x8_2 : Int) := of_decide_eq_true (by first | (with_reducible assumption) | assumption)
                                have q121 : x8_2 < (x4_2.length : Int) := of_decide_eq_true (by first | (with_reducible assumption) | assumption)
                                obtain ⟨ad121, e121, hx121_0⟩ := Kd.at_int (Kd.R_reads' HO_4.out).2.2 x8_2 p121 q121
                                cases e121
                                replace p121 := eq_true p121
                                replace q121 := eq_true q121
                                have p122 : 0 ≤ (x6_1 : Int) := of_decide_eq_true (by first | (with_reducible assumption) | assumption)
                                have q122 : x6_1 < (l0.length : Int) := of_decide_eq_true (by first | (with_reducible assumption) | assumption)
                                obtain ⟨ad122, A122_0, c122_0, e122, hx122_0, hl122_0, hi122_0⟩ := at_L1 HR0.out x6_1 p122 q122
                                have hw122_0 := hx122_0
                                obtain rfl : ad111 = ad122 := (by injection e122)
                                replace hx122_0 := (HB.out.cell (World.block_lt_of_cell? w _ hx122_0)).trans hx122_0
                                have HR122_0 := Aside0.mk hi122_0
                                have HC122_0 := Aside0.mk hl122_0
                                clear hi122_0 hl122_0
                                replace p122 := eq_true p122
                                replace q122 := eq_true q122
                                have p123 : 0 ≤ (x8_2 : Int) := of_decide_eq_true (by first | (with_reducible assumption) | assumption)
                                have q123 : x8_2 < ((rd_L1 l0 x6_1).length : Int) := of_decide_eq_true (by first | (with_reducible assumption) | assumption)
                                obtain ⟨ad123, e123, hx123_0⟩ := Kd.at_int HR122_0.out x8_2 p123 q123
                                have hw123_0 := hx123_0
                                cases e123
                                replace hx123_0 := (HB.out.cell (World.block_lt_of_cell? w _ hx123_0)).trans hx123_0
                                replace p123 := eq_true p123
                                replace q123 := eq_true q123
                                have p22 : 0 ≤ (x8_2 : Int) := of_decide_eq_true (by first | (with_reducible assumption) | assumption)
                                have q22 : (x8_2 : Int) < ((x4_2.length : Int) : Int) := of_decide_eq_true (by first | (with_reducible assumption) | assumption)
                                obtain ⟨go22, co22, eo22, gb22, gl22, cl22, HG22⟩ := Kd.R_form HO_4.out (by omega)
                                (first | cases eo22 | (injection eo22 with ea_ en_ ec_; (first | subst ea_ | (injection ea_ with ea_; subst ea_)); subst ec_; clear en_))
                                have GB22 := Aside0.mk gb22
                                have GG22 := Aside0.mk HG22
                                clear gb22 gl22 HG22
                                (first | simp only [add_plain] at hx121_0 | skip)
                                obtain ⟨hx22_0, hf22_0⟩ := Kd.R_celln 0 HO_4.out (x8_2 : Int) p22 q22
                                replace p22 := eq_true p22
                                replace q22 := eq_true q22
                                have HP28 := Kd.R_putn HO_4.out (x8_2 : Int) (Go.bits .xor .u8 (rd x4_2 x8_2) (rd (rd_L1 l0 x6_1) x8_2))
                                rw [← Ny124.out] at HP28
                                have HQ28 := Aside0.mk HP28
                                clear HP28
                                refine start_ (n := 16) (S := fun w' => w'.cell? ⟨go22, (x8_2).toNat, none⟩ = some (.int .u8 (rd x4_2 x8_2)) ∧ w'.cell? (ad111.add (x6_1).toNat) = some (.slice (some ad123) (rd_L1 l0 x6_1).length c122_0) ∧ w'.cell? (ad123.add (x8_2).toNat) = some (.int .u8 (rd (rd_L1 l0 x6_1) x8_2))) (ds := [15]) #[false, false, false, false, false, false, false, false, false, false, false, false, false, false, false, false] (by kernel_rfl) rfl rfl ⟨hx121_0, ((HB.out.cell (World.block_lt_of_cell? w _ hw122_0)).trans hw122_0), ((HB.out.cell (World.block_lt_of_cell? w _ hw123_0)).trans hw123_0)⟩ (fun hHeld => ?_); refine with_tabW ramekinref5_Parity.tab11 ramekinref5_Parity.bits11 (fun HT_ HW_ => ?_)
                                generalize wr.drew = w26 at HO_4 HO_5 HB GG22 HQ28 HR122_0 hf22_0 hx121_0 hx122_0 hx123_0 hx22_0 hHeld ⊢
                                refine pure_ (i := 0) (N := some 39) (v := ?_) (a' := ?_) #[true, false, false, false, false, false, false, false, false, false, false, false, false, false, false, false] rfl rfl (any_of HT_.out (by kernel_rfl)) (fun _ _ _ h => h) (Or.inl ⟨by rfl, ?_⟩) ?_ ?_
                                rotate_left
                                · intro w'
                                  go_simp
                                  with_reducible rfl
                                rotate_left
                                · simp only [Act.put, List.setIfInBounds_toArray, List.set_cons_zero, List.set_cons_succ, i64_w, i32_w]
                                  rfl
                                refine pure_ (i := 1) (N := some 40) (v := ?_) (a' := ?_) #[true, true, false, false, false, false, false, false, false, false, false, false, false, false, false, false] rfl rfl (any_of HT_.out (by kernel_rfl)) (fun _ _ _ h => h) (Or.inl ⟨by rfl, ?_⟩) ?_ ?_
                                rotate_left
                                · intro w'
                                  go_simp
                                  with_reducible rfl
                                rotate_left
                                · simp only [Act.put, List.setIfInBounds_toArray, List.set_cons_zero, List.set_cons_succ, i64_w, i32_w]
                                  rfl
                                refine pure_ (i := 2) (N := some 41) (v := ?_) (a' := ?_) #[true, true, true, false, false, false, false, false, false, false, false, false, false, false, false, false] rfl rfl (any_of HT_.out (by kernel_rfl)) (fun _ _ _ h => h) (Or.inl ⟨by rfl, ?_⟩) ?_ ?_
                                rotate_left
                                · intro w'
                                  go_simp
                                  with_reducible rfl
                                rotate_left
                                · simp only [Act.put, List.setIfInBounds_toArray, List.set_cons_zero, List.set_cons_succ, i64_w, i32_w]
                                  rfl
                                refine pure_ (i := 3) (N := some 42) (v := ?_) (a' := ?_) #[true, true, true, true, false, false, false, false, false, false, false, false, false, false, false, false] rfl rfl (any_of HT_.out (by kernel_rfl)) (fun _ _ _ h => h) (Or.inl ⟨by rfl, ?_⟩) ?_ ?_
                                rotate_left
                                · intro w'
                                  go_simp
                                  with_reducible rfl
                                rotate_left
                                · simp only [Act.put, List.setIfInBounds_toArray, List.set_cons_zero, List.set_cons_succ, i64_w, i32_w]
                                  rfl
                                refine pure_ (i := 4) (N := some 43) (v := ?_) (a' := ?_) #[true, true, true, true, true, false, false, false, false, false, false, false, false, false, false, false] rfl rfl (any_of HT_.out (by kernel_rfl)) (fun _ _ _ h => h) (Or.inl ⟨by rfl, ?_⟩) ?_ ?_
                                rotate_left
                                · intro w'
                                  go_simp
                                  with_reducible rfl
                                rotate_left
                                · simp only [Act.put, List.setIfInBounds_toArray, List.set_cons_zero, List.set_cons_succ, i64_w, i32_w]
                                  rfl
                                refine pure_ (i := 6) (N := some 45) (v := ?_) (a' := ?_) #[true, true, true, true, true, false, true, false, false, false, false, false, false, false, false, false] rfl rfl (any_of HT_.out (by kernel_rfl)) (fun _ _ _ h => h) (Or.inl ⟨by rfl, ?_⟩) ?_ ?_
                                rotate_left
                                · intro w'
                                  go_simp
                                  with_reducible rfl
                                rotate_left
                                · simp only [Act.put, List.setIfInBounds_toArray, List.set_cons_zero, List.set_cons_succ, i64_w, i32_w]
                                  rfl
                                refine pure_ (i := 7) (N := some 46) (v := ?_) (a' := ?_) #[true, true, true, true, true, false, true, true, false, false, false, false, false, false, false, false] rfl rfl (any_of HT_.out (by kernel_rfl)) (fun _ _ _ h => h) (Or.inl ⟨by rfl, ?_⟩) ?_ ?_
                                rotate_left
                                · intro w'
                                  go_simp
                                  with_reducible rfl
                                rotate_left
                                · simp only [Act.put, List.setIfInBounds_toArray, List.set_cons_zero, List.set_cons_succ, i64_w, i32_w]
                                  rfl
                                refine pure_ (i := 8) (N := some 47) (v := ?_) (a' := ?_) #[true, true, true, true, true, false, true, true, true, false, false, false, false, false, false, false] rfl rfl (any_of HT_.out (by kernel_rfl)) (fun _ _ _ h => h) (Or.inl ⟨by rfl, ?_⟩) ?_ ?_
                                rotate_left
                                · intro w'
                                  go_simp
                                  with_reducible rfl
                                rotate_left
                                · simp only [Act.put, List.setIfInBounds_toArray, List.set_cons_zero, List.set_cons_succ, i64_w, i32_w]
                                  rfl
                                refine pure_ (i := 10) (N := some 49) (v := ?_) (a' := ?_) #[true, true, true, true, true, false, true, true, true, false, true, false, false, false, false, false] rfl rfl (any_of HT_.out (by kernel_rfl)) (fun _ _ _ h => h) (Or.inl ⟨by rfl, ?_⟩) ?_ ?_
                                rotate_left
                                · intro w'
                                  go_simp
                                  with_reducible rfl
                                rotate_left
                                · simp only [Act.put, List.setIfInBounds_toArray, List.set_cons_zero, List.set_cons_succ, i64_w, i32_w]
                                  rfl
                                refine take_ (i := 5) (N := some 44) (v := ?_) (a' := ?_) #[true, true, true, true, true, true, true, true, true, false, true, false, false, false, false, false] rfl rfl (take_ofW HT_.out HW_.out (by kernel_rfl)) (fun _ _ _ h => h) (Or.inl ⟨by rfl, ?_⟩) hHeld ?_ ?_
                                rotate_left
                                · rintro w' ⟨s0, s1, s2⟩
                                  go_simp
                                  with_reducible rfl
                                rotate_left
                                · simp only [Act.put, List.setIfInBounds_toArray, List.set_cons_zero, List.set_cons_succ, i64_w, i32_w]
                                  rfl
                                refine take_ (i := 9) (N := some 48) (v := ?_) (a' := ?_) #[true, true, true, true, true, true, true, true, true, true, true, false, false, false, false, false] rfl rfl (take_ofW HT_.out HW_.out (by kernel_rfl)) (fun _ _ _ h => h) (Or.inl ⟨by rfl, ?_⟩) hHeld ?_ ?_
                                rotate_left
                                · rintro w' ⟨s0, s1, s2⟩
                                  go_simp
                                  with_reducible rfl
                                rotate_left
                                · simp only [Act.put, List.setIfInBounds_toArray, List.set_cons_zero, List.set_cons_succ, i64_w, i32_w]
                                  rfl
                                refine pure_ (i := 11) (N := some 50) (v := ?_) (a' := ?_) #[true, true, true, true, true, true, true, true, true, true, true, true, false, false, false, false] rfl rfl (any_of HT_.out (by kernel_rfl)) (fun _ _ _ h => h) (Or.inl ⟨by rfl, ?_⟩) ?_ ?_
                                rotate_left
                                · intro w'
                                  go_simp
                                  with_reducible rfl
                                rotate_left
                                · simp only [Act.put, List.setIfInBounds_toArray, List.set_cons_zero, List.set_cons_succ, i64_w, i32_w]
                                  rfl
                                refine take_ (i := 12) (N := some 51) (v := ?_) (a' := ?_) #[true, true, true, true, true, true, true, true, true, true, true, true, true, false, false, false] rfl rfl (take_ofW HT_.out HW_.out (by kernel_rfl)) (fun _ _ _ h => h) (Or.inl ⟨by rfl, ?_⟩) hHeld ?_ ?_
                                rotate_left
                                · rintro w' ⟨s0, s1, s2⟩
                                  go_simp
                                  with_reducible rfl
                                rotate_left
                                · simp only [Act.put, List.setIfInBounds_toArray, List.set_cons_zero, List.set_cons_succ, i64_w, i32_w]
                                  rfl
                                refine pure_ (i := 13) (N := some 52) (v := ?_) (a' := ?_) #[true, true, true, true, true, true, true, true, true, true, true, true, true, true, false, false] rfl rfl (any_of HT_.out (by kernel_rfl)) (fun _ _ _ h => h) (Or.inl ⟨by rfl, ?_⟩) ?_ ?_
                                rotate_left
                                · intro w'
                                  go_simp
                                  with_reducible rfl
                                rotate_left
                                · simp only [Act.put, List.setIfInBounds_toArray, List.set_cons_zero, List.set_cons_succ, i64_w, i32_w]
                                  rfl
                                refine pure_ (i := 14) (N := some 53) (v := ?_) (a' := ?_) #[true, true, true, true, true, true, true, true, true, true, true, true, true, true, true, false] rfl rfl (any_of HT_.out (by kernel_rfl)) (fun _ _ _ h => h) (Or.inl ⟨by rfl, ?_⟩) ?_ ?_
                                rotate_left
                                · intro w'
                                  go_simp
                                  with_reducible rfl
                                rotate_left
                                · simp only [Act.put, List.setIfInBounds_toArray, List.set_cons_zero, List.set_cons_succ, i64_w, i32_w]
                                  rfl
                                refine last_ (i := 15) (N := none) #[true, true, true, true, true, true, true, true, true, true, true, true, true, true, true, true] rfl rfl (one_of HT_.out (by kernel_rfl)) (by decide) (fun K hK => ?_)
                                refine skip_ (w1 := ?_) (by rfl) rfl ?_ ?_
                                rotate_left
                                · go_simp
                                  rfl
                                refine hK.out _ _ ?_
                                clear hK K
                                refine done_ (done_of HT_.out (by kernel_rfl)) ?_
                                try go_wp2
                                have n0_ : Aside0 (Kd.R (Kd.int .u8) 5 (w26.setCell ⟨go22, (x8_2 : Int).toNat, none⟩ (.int .u8 (Go.bits .xor .u8 (rd x4_2 x8_2) (rd (rd_L1 l0 x6_1) x8_2)))) w.heap.size (fun k_ => some k_ ≠ (v117 : Value).ownBlock) (.slice (some ⟨go22, 0, none⟩) x4_2.length co27) y124) := ⟨by (with_reducible repeat (first | apply Kd.R_alloc | apply Kd.R_drewN | apply Kd.R_drew)); exact HQ28.out⟩
                                have n1_ : Aside0 (Kd.R (Kd.int .u8) 5 (w26.setCell ⟨go22, (x8_2 : Int).toNat, none⟩ (.int .u8 (Go.bits .xor .u8 (rd x4_2 x8_2) (rd (rd_L1 l0 x6_1) x8_2)))) w.heap.size (fun k_ => some k_ ≠ (.slice (some ⟨go22, 0, none⟩) x4_2.length co27 : Value).ownBlock) v117 x5_2) := ⟨by (with_reducible repeat (first | apply Kd.R_alloc | apply Kd.R_drewN | apply Kd.R_drew)); exact Kd.R_mono (Kd.R_far (p := ⟨go22, (x8_2 : Int).toNat, none⟩) (Kd.R_mono HO_5.out (fun k_ hk => (⟨hk, fun e_ => hk (by rw [e_]; rfl)⟩ : _ ∧ k_ ≠ go22))) (fun _ hk => hk.2) (.int .u8 (Go.bits .xor .u8 (rd x4_2 x8_2) (rd (rd_L1 l0 x6_1) x8_2)))) (fun _ hk => hk.1)⟩
                                have n2_ : Aside0 (Below w.heap.size w (w26.setCell ⟨go22, (x8_2 : Int).toNat, none⟩ (.int .u8 (Go.bits .xor .u8 (rd x4_2 x8_2) (rd (rd_L1 l0 x6_1) x8_2))))) := ⟨by repeat (first | (with_reducible first | exact HB.out | apply below_alloc | apply pw_below_drewN | apply below_drew1 | refine below_set ?_ GB22.out) | exact HB.out)⟩
                                (try clear HO_4)
                                (try clear HO_5)
                                (try clear HB)
                                generalize (w26.setCell ⟨go22, (x8_2 : Int).toNat, none⟩ (.int .u8 (Go.bits .xor .u8 (rd x4_2 x8_2) (rd (rd_L1 l0 x6_1) x8_2)))) = w29 at n0_ n1_ n2_ ⊢
                                have HO_4 := n0_
                                have HO_5 := n1_
                                have HB := n2_
                                clear n0_ n1_ n2_
                                have n0_ := Aside0.mk (Kd.R_drew HO_4.out)
                                have n1_ := Aside0.mk (Kd.R_drew HO_5.out)
                                have n2_ := Aside0.mk (below_drew1 HB.out)
                                clear HO_4
                                clear HO_5
                                clear HB
                                have HO_4 := n0_
                                have HO_5 := n1_
                                have HB := n2_
                                clear n0_ n1_ n2_
                                obtain ⟨Ao31, co31, eo31⟩ := Kd.R_slice HO_5.out
                                (first | subst eo31 | (injection eo31 with f1_ f2_ f3_; have f4_ := f1_.symm; have f5_ := f3_.symm; clear f1_ f2_ f3_; subst f4_; subst f5_))
                                have p125 : 0 ≤ (x8_2 : Int) := of_decide_eq_true (by first | (with_reducible assumption) | assumption)
                                have q125 : x8_2 < (x5_2.length : Int) := of_decide_eq_true (by first | (with_reducible assumption) | assumption)
                                obtain ⟨ad125, e125, hx125_0⟩ := Kd.at_int (Kd.R_reads' HO_5.out).2.2 x8_2 p125 q125
                                cases e125
                                replace p125 := eq_true p125
                                replace q125 := eq_true q125
                                have p126 : 0 ≤ (x6_1 : Int) := of_decide_eq_true (by first | (with_reducible assumption) | assumption)
                                have q126 : x6_1 < (l0.length : Int) := of_decide_eq_true (by first | (with_reducible assumption) | assumption)
                                obtain ⟨ad126, A126_0, c126_0, e126, hx126_0, hl126_0, hi126_0⟩ := at_L1 HR0.out x6_1 p126 q126
                                have hw126_0 := hx126_0
                                obtain rfl : ad111 = ad126 := (by injection e126)
                                replace hx126_0 := (HB.out.cell (World.block_lt_of_cell? w _ hx126_0)).trans hx126_0
                                have HR126_0 := Aside0.mk hi126_0
                                have HC126_0 := Aside0.mk hl126_0
                                clear hi126_0 hl126_0
                                replace p126 := eq_true p126
                                replace q126 := eq_true q126
                                have p127 : 0 ≤ (x8_2 : Int) := of_decide_eq_true (by first | (with_reducible assumption) | assumption)
                                have q127 : x8_2 < ((rd_L1 l0 x6_1).length : Int) := of_decide_eq_true (by first | (with_reducible assumption) | assumption)
                                obtain ⟨ad127, e127, hx127_0⟩ := Kd.at_int HR126_0.out x8_2 p127 q127
                                have hw127_0 := hx127_0
                                cases e127
                                replace hx127_0 := (HB.out.cell (World.block_lt_of_cell? w _ hx127_0)).trans hx127_0
                                replace p127 := eq_true p127
                                replace q127 := eq_true q127
                                refine start_ (n := 18) (S := fun w' => w'.cell? (ad125.add (x8_2).toNat) = some (.int .u8 (rd x5_2 x8_2)) ∧ w'.cell? (ad111.add (x6_1).toNat) = some (.slice (some ad127) (rd_L1 l0 x6_1).length c126_0) ∧ w'.cell? (ad127.add (x8_2).toNat) = some (.int .u8 (rd (rd_L1 l0 x6_1) x8_2))) (ds := [17]) #[false, false, false, false, false, false, false, false, false, false, false, false, false, false, false, false, false, false] (by kernel_rfl) rfl rfl ⟨hx125_0, ((HB.out.cell (World.block_lt_of_cell? w _ hw126_0)).trans hw126_0), ((HB.out.cell (World.block_lt_of_cell? w _ hw127_0)).trans hw127_0)⟩ (fun hHeld => ?_); refine with_tabW ramekinref5_Parity.tab12 ramekinref5_Parity.bits12 (fun HT_ HW_ => ?_)
                                generalize w29.drew = w30 at HO_4 HO_5 HB HQ28 HR126_0 hx125_0 hx126_0 hx127_0 hHeld ⊢
                                refine pure_ (i := 0) (N := some 54) (v := ?_) (a' := ?_) #[true, false, false, false, false, false, false, false, false, false, false, false, false, false, false, false, false, false] rfl rfl (any_of HT_.out (by kernel_rfl)) (fun _ _ _ h => h) (Or.inl ⟨by rfl, ?_⟩) ?_ ?_
                                rotate_left
                                · intro w'
                                  go_simp
                                  with_reducible rfl
                                rotate_left
                                · simp only [Act.put, List.setIfInBounds_toArray, List.set_cons_zero, List.set_cons_succ, i64_w, i32_w]
                                  rfl
                                refine pure_ (i := 1) (N := some 55) (v := ?_) (a' := ?_) #[true, true, false, false, false, false, false, false, false, false, false, false, false, false, false, false, false, false] rfl rfl (any_of HT_.out (by kernel_rfl)) (fun _ _ _ h => h) (Or.inl ⟨by rfl, ?_⟩) ?_ ?_
                                rotate_left
                                · intro w'
                                  go_simp
                                  with_reducible rfl
                                rotate_left
                                · simp only [Act.put, List.setIfInBounds_toArray, List.set_cons_zero, List.set_cons_succ, i64_w, i32_w]
                                  rfl
                                refine pure_ (i := 2) (N := some 56) (v := ?_) (a' := ?_) #[true, true, true, false, false, false, false, false, false, false, false, false, false, false, false, false, false, false] rfl rfl (any_of HT_.out (by kernel_rfl)) (fun _ _ _ h => h) (Or.inl ⟨by rfl, ?_⟩) ?_ ?_
                                rotate_left
                                · intro w'
                                  go_simp
                                  with_reducible rfl
                                rotate_left
                                · simp only [Act.put, List.setIfInBounds_toArray, List.set_cons_zero, List.set_cons_succ, i64_w, i32_w]
                                  rfl
                                refine pure_ (i := 3) (N := some 57) (v := ?_) (a' := ?_) #[true, true, true, true, false, false, false, false, false, false, false, false, false, false, false, false, false, false] rfl rfl (any_of HT_.out (by kernel_rfl)) (fun _ _ _ h => h) (Or.inl ⟨by rfl, ?_⟩) ?_ ?_
                                rotate_left
                                · intro w'
                                  go_simp
                                  with_reducible rfl
                                rotate_left
                                · simp only [Act.put, List.setIfInBounds_toArray, List.set_cons_zero, List.set_cons_succ, i64_w, i32_w]
                                  rfl
                                refine pure_ (i := 4) (N := some 58) (v := ?_) (a' := ?_) #[true, true, true, true, true, false, false, false, false, false, false, false, false, false, false, false, false, false] rfl rfl (any_of HT_.out (by kernel_rfl)) (fun _ _ _ h => h) (Or.inl ⟨by rfl, ?_⟩) ?_ ?_
                                rotate_left
                                · intro w'
                                  go_simp
                                  with_reducible rfl
                                rotate_left
                                · simp only [Act.put, List.setIfInBounds_toArray, List.set_cons_zero, List.set_cons_succ, i64_w, i32_w]
                                  rfl
                                refine pure_ (i := 6) (N := some 60) (v := ?_) (a' := ?_) #[true, true, true, true, true, false, true, false, false, false, false, false, false, false, false, false, false, false] rfl rfl (any_of HT_.out (by kernel_rfl)) (fun _ _ _ h => h) (Or.inl ⟨by rfl, ?_⟩) ?_ ?_
                                rotate_left
                                · intro w'
                                  go_simp
                                  with_reducible rfl
                                rotate_left
                                · simp only [Act.put, List.setIfInBounds_toArray, List.set_cons_zero, List.set_cons_succ, i64_w, i32_w]
                                  rfl
                                refine pure_ (i := 7) (N := some 61) (v := ?_) (a' := ?_) #[true, true, true, true, true, false, true, true, false, false, false, false, false, false, false, false, false, false] rfl rfl (any_of HT_.out (by kernel_rfl)) (fun _ _ _ h => h) (Or.inl ⟨by rfl, ?_⟩) ?_ ?_
                                rotate_left
                                · intro w'
                                  go_simp
                                  with_reducible rfl
                                rotate_left
                                · simp only [Act.put, List.setIfInBounds_toArray, List.set_cons_zero, List.set_cons_succ, i64_w, i32_w]
                                  rfl
                                refine pure_ (i := 8) (N := some 62) (v := ?_) (a' := ?_) #[true, true, true, true, true, false, true, true, true, false, false, false, false, false, false, false, false, false] rfl rfl (any_of HT_.out (by kernel_rfl)) (fun _ _ _ h => h) (Or.inl ⟨by rfl, ?_⟩) ?_ ?_
                                rotate_left
                                · intro w'
                                  go_simp
                                  with_reducible rfl
                                rotate_left
                                · simp only [Act.put, List.setIfInBounds_toArray, List.set_cons_zero, List.set_cons_succ, i64_w, i32_w]
                                  rfl
                                refine pure_ (i := 9) (N := some 63) (v := ?_) (a' := ?_) #[true, true, true, true, true, false, true, true, true, true, false, false, false, false, false, false, false, false] rfl rfl (any_of HT_.out (by kernel_rfl)) (fun _ _ _ h => h) (Or.inl ⟨by rfl, ?_⟩) ?_ ?_
                                rotate_left
                                · intro w'
                                  go_simp
                                  with_reducible rfl
                                rotate_left
                                · simp only [Act.put, List.setIfInBounds_toArray, List.set_cons_zero, List.set_cons_succ, i64_w, i32_w]
                                  rfl
                                refine pure_ (i := 11) (N := some 65) (v := ?_) (a' := ?_) #[true, true, true, true, true, false, true, true, true, true, false, true, false, false, false, false, false, false] rfl rfl (any_of HT_.out (by kernel_rfl)) (fun _ _ _ h => h) (Or.inl ⟨by rfl, ?_⟩) ?_ ?_
                                rotate_left
                                · intro w'
                                  go_simp
                                  with_reducible rfl
                                rotate_left
                                · simp only [Act.put, List.setIfInBounds_toArray, List.set_cons_zero, List.set_cons_succ, i64_w, i32_w]
                                  rfl
                                refine take_ (i := 5) (N := some 59) (v := ?_) (a' := ?_) #[true, true, true, true, true, true, true, true, true, true, false, true, false, false, false, false, false, false] rfl rfl (take_ofW HT_.out HW_.out (by kernel_rfl)) (fun _ _ _ h => h) (Or.inl ⟨by rfl, ?_⟩) hHeld ?_ ?_
                                rotate_left
                                · rintro w' ⟨s0, s1, s2⟩
                                  go_simp
                                  with_reducible rfl
                                rotate_left
                                · simp only [Act.put, List.setIfInBounds_toArray, List.set_cons_zero, List.set_cons_succ, i64_w, i32_w]
                                  rfl
                                refine take_ (i := 10) (N := some 64) (v := ?_) (a' := ?_) #[true, true, true, true, true, true, true, true, true, true, true, true, false, false, false, false, false, false] rfl rfl (take_ofW HT_.out HW_.out (by kernel_rfl)) (fun _ _ _ h => h) (Or.inl ⟨by rfl, ?_⟩) hHeld ?_ ?_
                                rotate_left
                                · rintro w' ⟨s0, s1, s2⟩
                                  go_simp
                                  with_reducible rfl
                                rotate_left
                                · simp only [Act.put, List.setIfInBounds_toArray, List.set_cons_zero, List.set_cons_succ, i64_w, i32_w]
                                  rfl
                                refine pure_ (i := 12) (N := some 66) (v := ?_) (a' := ?_) #[true, true, true, true, true, true, true, true, true, true, true, true, true, false, false, false, false, false] rfl rfl (any_of HT_.out (by kernel_rfl)) (fun _ _ _ h => h) (Or.inl ⟨by rfl, ?_⟩) ?_ ?_
                                rotate_left
                                · intro w'
                                  go_simp
                                  with_reducible rfl
                                rotate_left
                                · simp only [Act.put, List.setIfInBounds_toArray, List.set_cons_zero, List.set_cons_succ, i64_w, i32_w]
                                  rfl
                                refine take_ (i := 13) (N := some 67) (v := ?_) (a' := ?_) #[true, true, true, true, true, true, true, true, true, true, true, true, true, true, false, false, false, false] rfl rfl (take_ofW HT_.out HW_.out (by kernel_rfl)) (fun _ _ _ h => h) (Or.inl ⟨by rfl, ?_⟩) hHeld ?_ ?_
                                rotate_left
                                · rintro w' ⟨s0, s1, s2⟩
                                  go_simp
                                  with_reducible rfl
                                rotate_left
                                · simp only [Act.put, List.setIfInBounds_toArray, List.set_cons_zero, List.set_cons_succ, i64_w, i32_w]
                                  rfl
                                refine one_ (i := 14) (N := some 68) #[true, true, true, true, true, true, true, true, true, true, true, true, true, true, true, false, false, false] rfl rfl (one_of HT_.out (by kernel_rfl)) (by decide) (fun K hK => ?_)
                                refine goes_ Try.func41 (by kernel_rfl) rfl #[.int .u8 t119, .int .u8 (rd (rd_L1 l0 x6_1) x8_2)] (by rfl) rfl rfl (by (try simp only [List.map_toArray, List.map_cons, List.map_nil]); first | done | rfl | (simp only [List.length_drop, List.length_take]; rfl)) ?_
                                with_reducible refine (ramekinref2_Mul.calls t119 (rd (rd_L1 l0 x6_1) x8_2) t128 _ A24.out).mono ?_
                                rintro e w32 ⟨rfl, hb⟩
                                have HS0_ := (hb.cell (World.block_lt_of_cell? _ _ (hHeld.1))).trans (hHeld.1)
                                refine ⟨_, rfl, ?_⟩
                                have n0_ := Aside0.mk (Kd.R_below (by (with_reducible repeat (first | apply Kd.R_alloc | apply Kd.R_drewN | apply Kd.R_drew)); exact HO_4.out) hb)
                                have n1_ := Aside0.mk (Kd.R_below (by (with_reducible repeat (first | apply Kd.R_alloc | apply Kd.R_drewN | apply Kd.R_drew)); exact HO_5.out) hb)
                                have n2_ := Aside0.mk (below_step (by repeat (first | (with_reducible first | exact HB.out | apply below_alloc | apply pw_below_drewN | apply below_drew1) | exact HB.out)) hb)
                                clear HO_4
                                clear HO_5
                                clear HB
                                have HO_4 := n0_
                                have HO_5 := n1_
                                have HB := n2_
                                clear n0_ n1_ n2_
                                (try clear hb)
                                (try clear hb2)
                                (try clear hk)
                                (try clear hi)
                                have p25 : 0 ≤ (x8_2 : Int) := of_decide_eq_true (by first | (with_reducible assumption) | assumption)
                                have q25 : (x8_2 : Int) < ((x5_2.length : Int) : Int) := of_decide_eq_true (by first | (with_reducible assumption) | assumption)
                                obtain ⟨go25, co25, eo25, gb25, gl25, cl25, HG25⟩ := Kd.R_form HO_5.out (by omega)
                                (first | cases eo25 | (injection eo25 with ea_ en_ ec_; (first | subst ea_ | (injection ea_ with ea_; subst ea_)); subst ec_; clear en_))
                                have GB25 := Aside0.mk gb25
                                have GG25 := Aside0.mk HG25
                                clear gb25 gl25 HG25
                                (first | simp only [add_plain] at hx125_0 | skip)
                                obtain ⟨hx25_0, hf25_0⟩ := Kd.R_celln 0 HO_5.out (x8_2 : Int) p25 q25
                                replace p25 := eq_true p25
                                replace q25 := eq_true q25
                                have HP33 := Kd.R_putn HO_5.out (x8_2 : Int) (Go.bits .xor .u8 (rd x5_2 x8_2) t128)
                                rw [← Ny129.out] at HP33
                                have HQ33 := Aside0.mk HP33
                                clear HP33
                                refine hK.out _ _ ⟨HS0_, ((HB.out.cell (World.block_lt_of_cell? w _ hw126_0)).trans hw126_0), ((HB.out.cell (World.block_lt_of_cell? w _ hw127_0)).trans hw127_0)⟩ (fun hHeld => ?_)
                                clear hK K
                                refine norm_ (a' := ?_) ?_ ?_
                                rotate_left
                                · show Act.put _ (some 68) _ = _
                                  simp only [Act.put, List.setIfInBounds_toArray, List.set_cons_zero, List.set_cons_succ, i64_w, i32_w]
                                  rfl
                                refine pure_ (i := 15) (N := some 69) (v := ?_) (a' := ?_) #[true, true, true, true, true, true, true, true, true, true, true, true, true, true, true, true, false, false] rfl rfl (any_of HT_.out (by kernel_rfl)) (fun _ _ _ h => h) (Or.inl ⟨by rfl, ?_⟩) ?_ ?_
                                rotate_left
                                · intro w'
                                  go_simp
                                  with_reducible rfl
                                rotate_left
                                · simp only [Act.put, List.setIfInBounds_toArray, List.set_cons_zero, List.set_cons_succ, i64_w, i32_w]
                                  rfl
                                refine pure_ (i := 16) (N := some 70) (v := ?_) (a' := ?_) #[true, true, true, true, true, true, true, true, true, true, true, true, true, true, true, true, true, false] rfl rfl (any_of HT_.out (by kernel_rfl)) (fun _ _ _ h => h) (Or.inl ⟨by rfl, ?_⟩) ?_ ?_
                                rotate_left
                                · intro w'
                                  go_simp
                                  with_reducible rfl
                                rotate_left
                                · simp only [Act.put, List.setIfInBounds_toArray, List.set_cons_zero, List.set_cons_succ, i64_w, i32_w]
                                  rfl
                                refine last_ (i := 17) (N := none) #[true, true, true, true, true, true, true, true, true, true, true, true, true, true, true, true, true, true] rfl rfl (one_of HT_.out (by kernel_rfl)) (by decide) (fun K hK => ?_)
                                refine skip_ (w1 := ?_) (by rfl) rfl ?_ ?_
                                rotate_left
                                · go_simp
                                  rfl
                                refine hK.out _ _ ?_
                                clear hK K
                                refine done_ (done_of HT_.out (by kernel_rfl)) ?_
                                try go_wp2
                                go_roundg k2
                                case measure => have := HK1.out; have := HK2.out; omega
                                case rel => exact ⟨(y124), (y129), (wrap64 (x8_2 + 1)), (by first | rfl | (simp; done) | (simp [*]; done)), H', ⟨by have := HK1.out; have := HK2.out; omega⟩, ⟨by (with_reducible repeat (first | apply Kd.R_alloc | apply Kd.R_drewN | apply Kd.R_drew)); exact Kd.R_mono (Kd.R_far (p := ⟨go25, (x8_2 : Int).toNat, none⟩) (Kd.R_mono HO_4.out (fun k_ hk => (⟨hk, fun e_ => hk (by rw [e_]; rfl)⟩ : _ ∧ k_ ≠ go25))) (fun _ hk => hk.2) (.int .u8 (Go.bits .xor .u8 (rd x5_2 x8_2) t128))) (fun _ hk => hk.1)⟩, ⟨by (with_reducible repeat (first | apply Kd.R_alloc | apply Kd.R_drewN | apply Kd.R_drew)); exact HQ33.out⟩, ⟨by repeat (first | (with_reducible first | exact HB.out | apply below_alloc | apply pw_below_drewN | apply below_drew1 | refine below_set ?_ GB25.out) | exact HB.out)⟩⟩
                              · rw [if_neg c23] at H
                                exact absurd H (by simp)
                            · rw [if_neg c21] at H
                              exact absurd H (by simp)
                          · rw [if_neg c20] at H
                            exact absurd H (by simp)
                        · rw [if_neg c19] at H
                          have c19b0 : decide (x8_2 < ((rd_L1 l0 x6_1).length : Int)) = false := decide_eq_false c19
                          clear c19
                          have H' := Aside0.mk H
                          clear H
                          have p120 : 0 ≤ (x6_1 : Int) := of_decide_eq_true (by first | (with_reducible assumption) | assumption)
                          have q120 : x6_1 < (l0.length : Int) := of_decide_eq_true (by first | (with_reducible assumption) | assumption)
                          obtain ⟨ad120, A120_0, c120_0, e120, hx120_0, hl120_0, hi120_0⟩ := at_L1 HR0.out x6_1 p120 q120
                          obtain rfl : ad111 = ad120 := (by injection e120)
                          replace hx120_0 := (HB.out.cell (World.block_lt_of_cell? w _ hx120_0)).trans hx120_0
                          have HR120_0 := Aside0.mk hi120_0
                          have HC120_0 := Aside0.mk hl120_0
                          clear hi120_0 hl120_0
                          replace p120 := eq_true p120
                          replace q120 := eq_true q120
                          go_wp2
                          go_roundg k2
                          case measure => have := HK1.out; have := HK2.out; omega
                          case rel => exact ⟨(x4_2), (x5_2), (wrap64 (x6_1 + 1)), (by first | rfl | (simp; done) | (simp [*]; done)), H', ⟨by have := HK1.out; have := HK2.out; omega⟩, ⟨by (with_reducible repeat (first | apply Kd.R_alloc | apply Kd.R_drewN | apply Kd.R_drew)); exact HO_4.out⟩, ⟨by (with_reducible repeat (first | apply Kd.R_alloc | apply Kd.R_drewN | apply Kd.R_drew)); exact HO_5.out⟩, ⟨by repeat (first | (with_reducible first | exact HB.out | apply below_alloc | apply pw_below_drewN | apply below_drew1) | exact HB.out)⟩⟩
                      · rw [if_neg c18] at H
                        exact absurd H (by simp)
                    · rw [if_neg c17] at H
                      exact absurd H (by simp)
              · rw [if_neg c14] at H
                have c14b0 : decide (x6_1 < (l0.length : Int)) = false := decide_eq_false c14
                clear c14
                simp only [Option.some.injEq, Prod.mk.injEq] at H
                obtain ⟨rfl, rfl⟩ := H
                go_wp2
                go_ret2
                exact ⟨_, _, by first | rfl | (simp [errW_none, errW_some] <;> rfl) | (simp [*, errW_none, errW_some] <;> rfl), by (with_reducible repeat (first | apply Kd.R_alloc | apply Kd.R_drewN | apply Kd.R_drew)); exact HO_4.out, by (with_reducible repeat (first | apply Kd.R_alloc | apply Kd.R_drewN | apply Kd.R_drew)); exact HO_5.out, by repeat (first | (with_reducible first | exact HB.out | apply below_alloc | apply pw_below_drewN | apply below_drew1) | exact HB.out)⟩
        · rw [if_neg c6] at H
          exact absurd H (by simp)
      · rw [if_neg c5] at H
        exact absurd H (by simp)
    · rw [if_neg c4] at H
      exact absurd H (by simp)
  · replace c3 := Bool.eq_false_iff.mpr c3
    subst c3
    have H1 : (some (([] : List Int), ([] : List Int))) = some (r1, r2) := by rw [if_neg (show ¬ (false = true) by decide)] at H; exact H
    clear H
    have H := H1
    clear H1
    simp only [Option.some.injEq, Prod.mk.injEq] at H
    obtain ⟨rfl, rfl⟩ := H
    go_enter Try.func27, Try.ntmps27
    go_wp2_with (first | ((with_reducible refine gate_callee (f := 39) rfl ?_); refine goesL_ (some 10) rfl rfl Try.func39 (by kernel_rfl) rfl #[.slice A0 l0.length c0, .int .i64 2, .int .i64 14] rfl (by (try simp only [List.map_toArray, List.map_cons, List.map_nil]); first | done | rfl | (simp only [List.length_drop, List.length_take]; rfl)) ?_; (with_reducible refine (ramekinref5_even.calls _ _ l0 2 14 false _ ?side1 ?side2 A2.out).mono ?_); (case side1 => repeat (first | exact HR0.out | (with_reducible refine Kd.C_alloc ?_ _) | (with_reducible refine Kd.C_drewN ?_ _) | (with_reducible refine Kd.C_drew ?_))); (case side2 => exact HC0.out); rintro e w34 ⟨rfl, hb⟩; refine ⟨_, rfl, ?_⟩; have n0_ := Aside0.mk (below_step (by repeat (first | (with_reducible first | exact HB.out | apply below_alloc | apply pw_below_drewN | apply below_drew1) | exact HB.out)) hb); clear HB; have HB := n0_; clear n0_; (try clear hb); (try clear hb2); (try clear hk); (try clear hi)))
    go_ret2
    exact ⟨_, _, by first | rfl | (simp [errW_none, errW_some] <;> rfl) | (simp [*, errW_none, errW_some] <;> rfl), by first | exact Kd.R_nil _ _ _ _ _ | exact Kd.N_nil _ _ _ _ _ | exact Kd.V_nil _ _ _ _ _ | exact Kd.Q_nil _ _ _ _ _ | exact Kd.S_nil _ _ _ _ _, by first | exact Kd.R_nil _ _ _ _ _ | exact Kd.N_nil _ _ _ _ _ | exact Kd.V_nil _ _ _ _ _ | exact Kd.Q_nil _ _ _ _ _ | exact Kd.S_nil _ _ _ _ _, by repeat (first | (with_reducible first | exact HB.out | apply below_alloc | apply pw_below_drewN | apply below_drew1) | exact HB.out)⟩
end Go.Proofs.Ytodbmgafejclmaa.PRr
namespace Go.Proofs.Ytodbmgafejclmaa.PRr
open Go.RowKit Go.Proofs.YtodbmgafejclmaaW.PrintWords Go.Proofs.YtodbmgafejclmaaW.PrintLast Go.Proofs.YtodbmgafejclmaaW.PrintMore
attribute [local go_sem] max2_int min2_int max_two min_two max_three min_three max_four min_four -- for this text's walks alone
set_option linter.unusedVariables false
set_option linter.unusedSimpArgs false
noncomputable def rs_alike.l0 : Nat → Int → List (List Int) → Int → Int → Option (Int × Bool)
  | 0, _, _, _, _ => none
  | k + 1, x4, x7, x8, x9 => if x9 < x8 then (if 0 ≤ x9 then (if x9 < (x7.length : Int) then (if x9 > 0 then (if ((rd_L1 x7 x9).length : Int) = x4 then (rs_alike.l0 k ((rd_L1 x7 x9).length : Int) x7 x8 (wrap64 (x9 + 1))) else (some (0, false))) else (rs_alike.l0 k ((rd_L1 x7 x9).length : Int) x7 x8 (wrap64 (x9 + 1)))) else (none)) else (none)) else (some (x4, true))
noncomputable def rs_alike.f (k : Nat) (l0 : List (List Int)) : Option (Int × Bool) := rs_alike.l0 k 0 l0 (l0.length : Int) 0
theorem rs_alike.mono_l : ∀ k, (∀ y0 y1 y2 y3, LeO (rs_alike.l0 k y0 y1 y2 y3) (rs_alike.l0 (k + 1) y0 y1 y2 y3))
  | 0 => fun _ _ _ _ r h => by simp [rs_alike.l0] at h
  | k + 1 => by
    have ih0 := rs_alike.mono_l k
    · intro y0 y1 y2 y3
      unfold rs_alike.l0
      repeat' first
      | (with_reducible exact ih0 _ _ _ _)
      | (with_reducible exact LeO.refl _)
      | (with_reducible exact LeO.none _)
      | (with_reducible refine LeO.ite ?_ ?_)
      | (with_reducible refine LeO.bind ?_ (fun _ => ?_))
      | exact ih0 _ _ _ _
      | exact LeO.none _
      | refine LeO.ite ?_ ?_
      | refine LeO.bind ?_ (fun _ => ?_)
theorem rs_alike.mono : ∀ a0 k, LeO (rs_alike.f k a0) (rs_alike.f (k + 1) a0) := by
  intro a0 k
  have ih0 := rs_alike.mono_l k
  unfold rs_alike.f
  repeat' first
      | (with_reducible exact ih0 _ _ _ _)
      | (with_reducible exact LeO.refl _)
      | (with_reducible exact LeO.none _)
      | (with_reducible refine LeO.ite ?_ ?_)
      | (with_reducible refine LeO.bind ?_ (fun _ => ?_))
      | exact ih0 _ _ _ _
      | exact LeO.none _
      | refine LeO.ite ?_ ?_
      | refine LeO.bind ?_ (fun _ => ?_)
set_option maxHeartbeats 8000000 in
set_option maxRecDepth 100000 in
theorem rs_alike.calls (k : Nat) (A0 : Option Addr) (c0 : Nat) (l0 : List (List Int)) (r1 : Int) (r2 : Bool) (w : World) (hr0 : Kd.C (Kd.slice 5 (Kd.int .u8)) w A0 l0.length l0) (hc0 : l0.length ≤ c0) (h : rs_alike.f k l0 = some (r1, r2)) :
    Calls Try.prog 58 #[.slice A0 l0.length c0] w fun e w' => e = .returned (.tuple #[.int .i64 r1, .bool r2]) ∧ Drawn0 w w' := by
  have HR0 := Aside0.mk hr0
  have HC0 := Aside0.mk hc0
  clear hr0 hc0
  have H : (rs_alike.l0 k 0 l0 (l0.length : Int) 0) = some (r1, r2) := h
  clear h
  have H' := Aside0.mk H
  clear H
  go_enter Try.func58, Try.ntmps58
  go_wp2
  go_loopg [4, 9] k (fun kq v4 v9 w' => ∃ (x4_1 : Int) (x9_1 : Int), v4 = .int .i64 x4_1 ∧ v9 = .int .i64 x9_1 ∧ Aside0 (rs_alike.l0 kq x4_1 l0 (l0.length : Int) x9_1 = some (r1, r2)) ∧ Aside0 (kq ≤ k) ∧ Drawn0 w w')
  case atStart => exact ⟨(0), (0), (by first | rfl | (simp; done) | (simp [*]; done)), (by first | rfl | (simp; done) | (simp [*]; done)), H', ⟨Nat.le_refl _⟩, by repeat (first | exact Drawn0.refl _ | apply Drawn0.step)⟩
  case round =>
    clear H'
    obtain ⟨x4_1, x9_1, rfl, rfl, HA, HK1, ⟨m1, rfl⟩⟩ := hrel
    cases gk with
    | zero => exact absurd HA.out (by simp [rs_alike.l0])
    | succ k1 =>
      have H := HA.out
      clear HA
      simp only [rs_alike.l0] at H
      by_cases c2 : x9_1 < (l0.length : Int)
      · rw [if_pos c2] at H
        have c2b0 : decide (x9_1 < (l0.length : Int)) = true := decide_eq_true c2
        clear c2
        by_cases c3 : 0 ≤ x9_1
        · rw [if_pos c3] at H
          have c3b0 : decide (0 ≤ x9_1) = true := decide_eq_true c3
          clear c3
          by_cases c4 : x9_1 < (l0.length : Int)
          · rw [if_pos c4] at H
            have c4b0 : decide (x9_1 < (l0.length : Int)) = true := decide_eq_true c4
            clear c4
            by_cases c5 : x9_1 > 0
            · rw [if_pos c5] at H
              have c5b0 : decide (0 < x9_1) = true := decide_eq_true c5
              clear c5
              by_cases c6 : ((rd_L1 l0 x9_1).length : Int) = x4_1
              · rw [if_pos c6] at H
                have c6b0 : (((rd_L1 l0 x9_1).length : Int) == x4_1) = true := beq_iff_eq.mpr c6
                have c6b1 : (((rd_L1 l0 x9_1).length : Int) != x4_1) = false := bne_eq_false_iff_eq.mpr c6
                clear c6
                have H' := Aside0.mk H
                clear H
                have p130 : 0 ≤ (x9_1 : Int) := of_decide_eq_true (by first | (with_reducible assumption) | assumption)
                have q130 : x9_1 < (l0.length : Int) := of_decide_eq_true (by first | (with_reducible assumption) | assumption)
                obtain ⟨ad130, A130_0, c130_0, e130, hx130_0, hl130_0, hi130_0⟩ := at_L1 HR0.out x9_1 p130 q130
                cases e130
                have HR130_0 := Aside0.mk hi130_0
                have HC130_0 := Aside0.mk hl130_0
                clear hi130_0 hl130_0
                replace p130 := eq_true p130
                replace q130 := eq_true q130
                go_wp2
                go_roundg k1
                case measure => have := HK1.out; omega
                case rel => exact ⟨(((rd_L1 l0 x9_1).length : Int)), (wrap64 (x9_1 + 1)), (by first | rfl | (simp; done) | (simp [*]; done)), (by first | rfl | (simp; done) | (simp [*]; done)), H', ⟨by have := HK1.out; omega⟩, by repeat (first | exact Drawn0.refl _ | apply Drawn0.step)⟩
              · rw [if_neg c6] at H
                have c6b0 : (((rd_L1 l0 x9_1).length : Int) == x4_1) = false := beq_eq_false_iff_ne.mpr c6
                have c6b1 : (((rd_L1 l0 x9_1).length : Int) != x4_1) = true := bne_iff_ne.mpr c6
                simp only [Option.some.injEq, Prod.mk.injEq] at H
                obtain ⟨rfl, rfl⟩ := H
                have p130 : 0 ≤ (x9_1 : Int) := of_decide_eq_true (by first | (with_reducible assumption) | assumption)
                have q130 : x9_1 < (l0.length : Int) := of_decide_eq_true (by first | (with_reducible assumption) | assumption)
                obtain ⟨ad130, A130_0, c130_0, e130, hx130_0, hl130_0, hi130_0⟩ := at_L1 HR0.out x9_1 p130 q130
                cases e130
                have HR130_0 := Aside0.mk hi130_0
                have HC130_0 := Aside0.mk hl130_0
                clear hi130_0 hl130_0
                replace p130 := eq_true p130
                replace q130 := eq_true q130
                go_wp2
                go_ret2
                exact ⟨by first | rfl | (simp; done) | (simp [*]; done), by repeat (first | exact Drawn0.refl _ | apply Drawn0.step)⟩
            · rw [if_neg c5] at H
              have c5b0 : decide (0 < x9_1) = false := decide_eq_false c5
              clear c5
              have H' := Aside0.mk H
              clear H
              have p130 : 0 ≤ (x9_1 : Int) := of_decide_eq_true (by first | (with_reducible assumption) | assumption)
              have q130 : x9_1 < (l0.length : Int) := of_decide_eq_true (by first | (with_reducible assumption) | assumption)
              obtain ⟨ad130, A130_0, c130_0, e130, hx130_0, hl130_0, hi130_0⟩ := at_L1 HR0.out x9_1 p130 q130
              cases e130
              have HR130_0 := Aside0.mk hi130_0
              have HC130_0 := Aside0.mk hl130_0
              clear hi130_0 hl130_0
              replace p130 := eq_true p130
              replace q130 := eq_true q130
              go_wp2
              go_roundg k1
              case measure => have := HK1.out; omega
              case rel => exact ⟨(((rd_L1 l0 x9_1).length : Int)), (wrap64 (x9_1 + 1)), (by first | rfl | (simp; done) | (simp [*]; done)), (by first | rfl | (simp; done) | (simp [*]; done)), H', ⟨by have := HK1.out; omega⟩, by repeat (first | exact Drawn0.refl _ | apply Drawn0.step)⟩
          · rw [if_neg c4] at H
            exact absurd H (by simp)
        · rw [if_neg c3] at H
          exact absurd H (by simp)
      · rw [if_neg c2] at H
        have c2b0 : decide (x9_1 < (l0.length : Int)) = false := decide_eq_false c2
        clear c2
        simp only [Option.some.injEq, Prod.mk.injEq] at H
        obtain ⟨rfl, rfl⟩ := H
        go_wp2
        go_ret2
        exact ⟨by first | rfl | (simp; done) | (simp [*]; done), by repeat (first | exact Drawn0.refl _ | apply Drawn0.step)⟩
noncomputable def rs_Parity.f (l0 : List (List Int)) : Option (List Int × List Int) := Lim.lim (fun k_ => PRq.rs_Parity.f k_ l0)
theorem rs_Parity.calls (A0 : Option Addr) (c0 : Nat) (l0 : List (List Int)) (r1 : List Int) (r2 : List Int) (w : World) (hr0 : Kd.C (Kd.slice 5 (Kd.int .u8)) w A0 l0.length l0) (hc0 : l0.length ≤ c0) (h : rs_Parity.f l0 = some (r1, r2)) :
    Calls Try.prog 59 #[.slice A0 l0.length c0] w fun e w' => ∃ v0_ v1_ : Value, e = .returned (.tuple #[v0_, v1_]) ∧ Kd.R (Kd.int .u8) 5 w' w.heap.size (fun k_ => some k_ ≠ (v1_ : Value).ownBlock) v0_ r1 ∧ Kd.R (Kd.int .u8) 5 w' w.heap.size (fun k_ => some k_ ≠ (v0_ : Value).ownBlock) v1_ r2 ∧ Below w.heap.size w w' := by
  obtain ⟨k_, hk_⟩ := Lim.lim_some h
  first
  | exact PRq.rs_Parity.calls k_ A0 c0 l0 r1 r2 w hr0 hc0 hk_
  | exact (PRq.rs_Parity.calls k_ A0 c0 l0 r1 r2 w hr0 hc0 hk_).mono (fun _ _ h_ => ⟨h_.1, Lim.below_of_drewN h_.2⟩)
noncomputable def slices_Equal_byte_byte.f (l0 : List Int) (l1 : List Int) : Option (Bool) := Lim.lim (fun k_ => PRq.slices_Equal_byte_byte.f k_ l0 l1)
theorem slices_Equal_byte_byte.calls (A0 : Option Addr) (c0 : Nat) (l0 : List Int) (A1 : Option Addr) (c1 : Nat) (l1 : List Int) (r : Bool) (w : World) (hr0 : Kd.C (Kd.int .u8) w A0 l0.length l0) (hc0 : l0.length ≤ c0) (hr1 : Kd.C (Kd.int .u8) w A1 l1.length l1) (hc1 : l1.length ≤ c1) (h : slices_Equal_byte_byte.f l0 l1 = some r) :
    Calls Try.prog 60 #[.slice A0 l0.length c0, .slice A1 l1.length c1] w fun e w' => e = .returned (.bool r) ∧ Drawn0 w w' := by
  obtain ⟨k_, hk_⟩ := Lim.lim_some h
  first
  | exact PRq.slices_Equal_byte_byte.calls k_ A0 c0 l0 A1 c1 l1 r w hr0 hc0 hr1 hc1 hk_
  | exact (PRq.slices_Equal_byte_byte.calls k_ A0 c0 l0 A1 c1 l1 r w hr0 hc0 hr1 hc1 hk_).mono (fun _ _ h_ => ⟨h_.1, Lim.below_of_drewN h_.2⟩)
noncomputable def rs_Check.j0 : Nat → List (List Int) → Bool → Option (Bool)
  | 0, _, _ => none
  | k + 1, x0, x24 => if x24 = true then (some false) else (if 0 ≤ (wrap64 ((x0.length : Int) - 2)) then (if (wrap64 ((x0.length : Int) - 2)) ≤ (x0.length : Int) then ((rs_Parity.f (x0.take ((wrap64 ((x0.length : Int) - 2)) : Int).toNat)).bind fun bt143 => (if (wrap64 ((x0.length : Int) - 2)) < (x0.length : Int) then ((slices_Equal_byte_byte.f bt143.1 (rd_L1 x0 (wrap64 ((x0.length : Int) - 2)))).bind fun t150 => (if t150 = true then (if 0 ≤ (wrap64 ((wrap64 ((x0.length : Int) - 2)) + 1)) then (if (wrap64 ((wrap64 ((x0.length : Int) - 2)) + 1)) < (x0.length : Int) then ((slices_Equal_byte_byte.f bt143.2 (rd_L1 x0 (wrap64 ((wrap64 ((x0.length : Int) - 2)) + 1)))).bind fun t152 => (some t152)) else (none)) else (none)) else (some false))) else (none))) else (none)) else (none))
noncomputable def rs_Check.f (k : Nat) (l0 : List (List Int)) : Option (Bool) := (rs_alike.f k l0).bind fun bt137 => (if bt137.2 = true then (if (l0.length : Int) < 4 then (rs_Check.j0 k l0 true) else (rs_Check.j0 k l0 (decide ((l0.length : Int) > 16)))) else (rs_Check.j0 k l0 true))
set_option maxHeartbeats 8000000 in
set_option maxRecDepth 100000 in
theorem rs_Check.calls (k : Nat) (A0 : Option Addr) (c0 : Nat) (l0 : List (List Int)) (r : Bool) (w : World) (hr0 : Kd.C (Kd.slice 5 (Kd.int .u8)) w A0 l0.length l0) (hc0 : l0.length ≤ c0) (h : rs_Check.f k l0 = some r) :
    Calls Try.prog 46 #[.slice A0 l0.length c0] w fun e w' => e = .returned (.bool r) ∧ Below w.heap.size w w' := by
  have HR0 := Aside0.mk hr0
  have HC0 := Aside0.mk hc0
  clear hr0 hc0
  have HB := Aside0.mk (Below.refl w.heap.size w)
  have H : ((rs_alike.f k l0).bind fun bt137 => (if bt137.2 = true then (if (l0.length : Int) < 4 then (rs_Check.j0 k l0 true) else (rs_Check.j0 k l0 (decide ((l0.length : Int) > 16)))) else (rs_Check.j0 k l0 true))) = some r := h
  clear h
  replace H := Option.bind_eq_some_iff.mp H
  obtain ⟨⟨t137, t138⟩, A20, H⟩ := H
  replace H : (if t138 = true then (if (l0.length : Int) < 4 then (rs_Check.j0 k l0 true) else (rs_Check.j0 k l0 (decide ((l0.length : Int) > 16)))) else (rs_Check.j0 k l0 true)) = some r := H
  have A2 := Aside0.mk A20
  clear A20
  have HC3 := Aside0.mk H
  clear H
  go_enter Try.func46, Try.ntmps46
  go_upto_region 2 with (first | ((with_reducible refine gate_callee (f := 58) rfl ?_); refine goesL_ (some 10) rfl rfl Try.func58 (by kernel_rfl) rfl #[.slice A0 l0.length c0] rfl (by (try simp only [List.map_toArray, List.map_cons, List.map_nil]); first | done | rfl | (simp only [List.length_drop, List.length_take]; rfl)) ?_; (with_reducible refine (rs_alike.calls k _ _ l0 t137 t138 _ ?side1 ?side2 A2.out).mono ?_); (case side1 => repeat (first | exact HR0.out | (with_reducible refine Kd.C_alloc ?_ _) | (with_reducible refine Kd.C_drewN ?_ _) | (with_reducible refine Kd.C_drew ?_))); (case side2 => exact HC0.out); rintro e w' ⟨rfl, ⟨nd, rfl⟩⟩; refine ⟨_, rfl, ?_⟩))
  (try simp only [Act.put, List.setIfInBounds_toArray, List.set_cons_zero, List.set_cons_succ])
  go_cut [24] (fun v24 wc => ∃ (kq : Nat) (x24_2 : Bool), v24 = .bool x24_2 ∧ Aside0 (rs_Check.j0 kq l0 x24_2 = some r) ∧ Aside0 (kq ≤ k) ∧ Aside0 (Below w.heap.size w wc))
  case first =>
    have H := HC3.out
    clear HC3
    by_cases c4 : t138 = true
    · subst c4
      have H1 : (if (l0.length : Int) < 4 then (rs_Check.j0 k l0 true) else (rs_Check.j0 k l0 (decide ((l0.length : Int) > 16)))) = some r := by rw [if_pos rfl] at H; exact H
      clear H
      have H := H1
      clear H1
      by_cases c5 : (l0.length : Int) < 4
      · rw [if_pos c5] at H
        have c5b0 : decide ((l0.length : Int) < 4) = true := decide_eq_true c5
        have c5b1 : decide (l0.length < 4) = true := decide_eq_true (by omega)
        clear c5
        (first | rw [c5b0] | (simp only [i64_w, i32_w]; rw [c5b0]) | skip)
        have H' := Aside0.mk H
        clear H
        go_wp2
        go_meet
        case rel => exact ⟨_, (true), (by first | rfl | (simp; done) | (simp [*]; done)), H', ⟨by first | omega | exact Nat.le_refl _⟩, ⟨by repeat (first | (with_reducible first | exact HB.out | apply below_alloc | apply pw_below_drewN | apply below_drew1) | exact HB.out)⟩⟩
      · rw [if_neg c5] at H
        have c5b0 : decide ((l0.length : Int) < 4) = false := decide_eq_false c5
        have c5b1 : decide (l0.length < 4) = false := decide_eq_false (by omega)
        clear c5
        (first | rw [c5b0] | (simp only [i64_w, i32_w]; rw [c5b0]) | skip)
        have H' := Aside0.mk H
        clear H
        go_wp2
        go_meet
        case rel => exact ⟨_, (decide ((l0.length : Int) > 16)), (by first | rfl | (simp; done) | (simp [*]; done)), H', ⟨by first | omega | exact Nat.le_refl _⟩, ⟨by repeat (first | (with_reducible first | exact HB.out | apply below_alloc | apply pw_below_drewN | apply below_drew1) | exact HB.out)⟩⟩
    · replace c4 := Bool.eq_false_iff.mpr c4
      subst c4
      have H1 : (rs_Check.j0 k l0 true) = some r := by rw [if_neg (show ¬ (false = true) by decide)] at H; exact H
      clear H
      have H := H1
      clear H1
      have H' := Aside0.mk H
      clear H
      go_wp2
      go_meet
      case rel => exact ⟨_, (true), (by first | rfl | (simp; done) | (simp [*]; done)), H', ⟨by first | omega | exact Nat.le_refl _⟩, ⟨by repeat (first | (with_reducible first | exact HB.out | apply below_alloc | apply pw_below_drewN | apply below_drew1) | exact HB.out)⟩⟩
  case rest =>
    clear HC3
    try clear p2
    try clear c4
    try clear c5
    try clear c5b0
    try clear c5b1
    obtain ⟨kq, x24_2, rfl, HA, HJ2, HB⟩ := hcut
    cases kq with
    | zero => exact absurd HA.out (by simp [rs_Check.j0])
    | succ kj2 =>
      have H := HA.out
      clear HA
      simp only [rs_Check.j0] at H
      by_cases c6 : x24_2 = true
      · subst c6
        have H1 : (some false) = some r := by rw [if_pos rfl] at H; exact H
        clear H
        have H := H1
        clear H1
        obtain rfl := Option.some.inj H
        go_wp2
        go_ret
        exact ⟨by first | rfl | (simp [errW_none, errW_some] <;> rfl) | (simp [*, errW_none, errW_some] <;> rfl), by repeat (first | (with_reducible first | exact HB.out | apply below_alloc | apply pw_below_drewN | apply below_drew1) | exact HB.out)⟩
      · replace c6 := Bool.eq_false_iff.mpr c6
        subst c6
        have H1 : (if 0 ≤ (wrap64 ((l0.length : Int) - 2)) then (if (wrap64 ((l0.length : Int) - 2)) ≤ (l0.length : Int) then ((rs_Parity.f (l0.take ((wrap64 ((l0.length : Int) - 2)) : Int).toNat)).bind fun bt143 => (if (wrap64 ((l0.length : Int) - 2)) < (l0.length : Int) then ((slices_Equal_byte_byte.f bt143.1 (rd_L1 l0 (wrap64 ((l0.length : Int) - 2)))).bind fun t150 => (if t150 = true then (if 0 ≤ (wrap64 ((wrap64 ((l0.length : Int) - 2)) + 1)) then (if (wrap64 ((wrap64 ((l0.length : Int) - 2)) + 1)) < (l0.length : Int) then ((slices_Equal_byte_byte.f bt143.2 (rd_L1 l0 (wrap64 ((wrap64 ((l0.length : Int) - 2)) + 1)))).bind fun t152 => (some t152)) else (none)) else (none)) else (some false))) else (none))) else (none)) else (none)) = some r := by rw [if_neg (show ¬ (false = true) by decide)] at H; exact H
        clear H
        have H := H1
        clear H1
        obtain ⟨ji7, hji7⟩ : ∃ j_ : Int, (wrap64 ((l0.length : Int) - 2)) = j_ := ⟨_, rfl⟩
        replace H : (if 0 ≤ (ji7) then (if (ji7) ≤ (l0.length : Int) then ((rs_Parity.f (l0.take ((ji7) : Int).toNat)).bind fun bt143 => (if (ji7) < (l0.length : Int) then ((slices_Equal_byte_byte.f bt143.1 (rd_L1 l0 (ji7))).bind fun t150 => (if t150 = true then (if 0 ≤ (wrap64 ((ji7) + 1)) then (if (wrap64 ((ji7) + 1)) < (l0.length : Int) then ((slices_Equal_byte_byte.f bt143.2 (rd_L1 l0 (wrap64 ((ji7) + 1)))).bind fun t152 => (some t152)) else (none)) else (none)) else (some false))) else (none))) else (none)) else (none)) = some r := by first | (rw [hji7] at H; exact H) | (simp only [hji7] at H ⊢; exact H)
        have hji7w : (IntKind.i64.wrap ((l0.length : Int) - 2)) = ji7 := (i64_w _).trans hji7
        by_cases c8 : 0 ≤ (ji7)
        · rw [if_pos c8] at H
          have c8b0 := eq_true c8
          have c8b1 : decide (0 ≤ (ji7)) = true := decide_eq_true c8
          clear c8
          by_cases c9 : (ji7) ≤ (l0.length : Int)
          · rw [if_pos c9] at H
            have c9b0 := eq_true c9
            have c9b1 : decide ((ji7) ≤ (l0.length : Int)) = true := decide_eq_true c9
            clear c9
            obtain ⟨y139, hy139⟩ : ∃ y_ : List (List Int), y_ = (l0.take ((ji7) : Int).toNat) := ⟨_, rfl⟩
            replace H : ((rs_Parity.f y139).bind fun bt143 => (if (ji7) < (l0.length : Int) then ((slices_Equal_byte_byte.f bt143.1 (rd_L1 l0 (ji7))).bind fun t150 => (if t150 = true then (if 0 ≤ (wrap64 ((ji7) + 1)) then (if (wrap64 ((ji7) + 1)) < (l0.length : Int) then ((slices_Equal_byte_byte.f bt143.2 (rd_L1 l0 (wrap64 ((ji7) + 1)))).bind fun t152 => (some t152)) else (none)) else (none)) else (some false))) else (none))) = some r := by first | (rw [hy139]; with_reducible exact H) | (have H2_ := (Option.bind_some _ _).symm.trans H; rw [hy139]; with_reducible exact H2_) | (have H2_ := (Option.bind_some _ _).symm.trans H; with_reducible exact H2_) | with_reducible exact H | (rw [hy139]; exact H) | exact H
            have Ny139 := Aside0.mk hy139
            clear hy139
            replace H := Option.bind_eq_some_iff.mp H
            obtain ⟨⟨t143, t144⟩, A100, H⟩ := H
            replace H : (if (ji7) < (l0.length : Int) then ((slices_Equal_byte_byte.f t143 (rd_L1 l0 (ji7))).bind fun t150 => (if t150 = true then (if 0 ≤ (wrap64 ((ji7) + 1)) then (if (wrap64 ((ji7) + 1)) < (l0.length : Int) then ((slices_Equal_byte_byte.f t144 (rd_L1 l0 (wrap64 ((ji7) + 1)))).bind fun t152 => (some t152)) else (none)) else (none)) else (some false))) else (none)) = some r := H
            have A10 := Aside0.mk A100
            clear A100
            by_cases c11 : (ji7) < (l0.length : Int)
            · rw [if_pos c11] at H
              have c11b0 : decide ((ji7) < (l0.length : Int)) = true := decide_eq_true c11
              clear c11
              replace H := Option.bind_eq_some_iff.mp H
              obtain ⟨t150, A120, H⟩ := H
              replace H : (if t150 = true then (if 0 ≤ (wrap64 ((ji7) + 1)) then (if (wrap64 ((ji7) + 1)) < (l0.length : Int) then ((slices_Equal_byte_byte.f t144 (rd_L1 l0 (wrap64 ((ji7) + 1)))).bind fun t152 => (some t152)) else (none)) else (none)) else (some false)) = some r := H
              have A12 := Aside0.mk A120
              clear A120
              by_cases c13 : t150 = true
              · subst c13
                have H1 : (if 0 ≤ (wrap64 ((ji7) + 1)) then (if (wrap64 ((ji7) + 1)) < (l0.length : Int) then ((slices_Equal_byte_byte.f t144 (rd_L1 l0 (wrap64 ((ji7) + 1)))).bind fun t152 => (some t152)) else (none)) else (none)) = some r := by rw [if_pos rfl] at H; exact H
                clear H
                have H := H1
                clear H1
                obtain ⟨ji14, hji14⟩ : ∃ j_ : Int, (wrap64 ((ji7) + 1)) = j_ := ⟨_, rfl⟩
                replace H : (if 0 ≤ (ji14) then (if (ji14) < (l0.length : Int) then ((slices_Equal_byte_byte.f t144 (rd_L1 l0 (ji14))).bind fun t152 => (some t152)) else (none)) else (none)) = some r := by first | (rw [hji14] at H; exact H) | (simp only [hji14] at H ⊢; exact H)
                (try rw [hji14] at A10)
                (try rw [hji14] at A12)
                have hji14w : (IntKind.i64.wrap ((ji7) + 1)) = ji14 := (i64_w _).trans hji14
                by_cases c15 : 0 ≤ (ji14)
                · rw [if_pos c15] at H
                  have c15b0 : decide (0 ≤ (ji14)) = true := decide_eq_true c15
                  clear c15
                  by_cases c16 : (ji14) < (l0.length : Int)
                  · rw [if_pos c16] at H
                    have c16b0 : decide ((ji14) < (l0.length : Int)) = true := decide_eq_true c16
                    clear c16
                    replace H := Option.bind_eq_some_iff.mp H
                    obtain ⟨t152, A170, H⟩ := H
                    replace H : (some t152) = some r := H
                    have A17 := Aside0.mk A170
                    clear A170
                    obtain rfl := Option.some.inj H
                    have q18 : ((ji7) : Int) ≤ ((l0.length : Int) : Int) := of_decide_eq_true (by first | (with_reducible assumption) | assumption)
                    obtain ⟨i018, hi018, _, hsz18, _⟩ := info_parts info24
                    have hroom18 : l0.length ≤ c0 := HC0.out
                    have hC18 : Kd.C (Kd.slice 5 (Kd.int .u8)) _ A0 l0.length l0 := HR0.out
                    have hcut18 := cut_to (P := Try.prog) 48 24 .i64 Try.underlying48 hi018 A0 l0.length c0 (ji7) (of_decide_eq_true (by first | (with_reducible assumption) | assumption)) q18 hroom18
                    have hr18 := Kd.C_take (m := ((ji7) : Int).toNat) hC18 (by omega)
                    have hy18 : y139.length = ((ji7) : Int).toNat := (by rw [Ny139.out, List.length_take]; omega)
                    rw [← Ny139.out] at hr18
                    rw [← hy18] at hcut18
                    have HR142 := Aside0.mk hr18
                    have HC142 := Aside0.mk (show y139.length ≤ c0 from by omega)
                    clear hr18 hC18 hroom18 hi018 hsz18
                    have KY18 := Aside0.mk hy18
                    clear hy18
                    replace q18 := eq_true q18
                    go_wp2_with (first | ((with_reducible refine gate_callee (f := 59) rfl ?_); refine goesL_ (some 32) rfl rfl Try.func59 (by kernel_rfl) rfl #[.slice A0 y139.length c0] rfl (by (try simp only [List.map_toArray, List.map_cons, List.map_nil]); first | done | rfl | (simp only [List.length_drop, List.length_take]; rfl)) ?_; (with_reducible refine (rs_Parity.calls _ _ y139 t143 t144 _ ?side1 ?side2 A10.out).mono ?_); (case side1 => repeat (first | exact (Kd.C_below HR142.out HB.out) | (with_reducible refine Kd.C_alloc ?_ _) | (with_reducible refine Kd.C_drewN ?_ _) | (with_reducible refine Kd.C_drew ?_))); (case side2 => exact HC142.out); rintro e w19 ⟨v145, v147, rfl, ho0, ho1, hb⟩; refine ⟨_, rfl, ?_⟩; have n0_ := Aside0.mk (Kd.R_lower ho0 (below_size (by repeat (first | (with_reducible first | exact HB.out | apply below_alloc | apply pw_below_drewN | apply below_drew1) | exact HB.out)))); have n1_ := Aside0.mk (Kd.R_lower ho1 (below_size (by repeat (first | (with_reducible first | exact HB.out | apply below_alloc | apply pw_below_drewN | apply below_drew1) | exact HB.out)))); have n2_ := Aside0.mk (below_step (by repeat (first | (with_reducible first | exact HB.out | apply below_alloc | apply pw_below_drewN | apply below_drew1) | exact HB.out)) hb); clear HB; have HO146 := n0_; have HO148 := n1_; have HB := n2_; clear n0_ n1_ n2_; (try clear hb); (try clear hb2); (try clear hk); (try clear hi); (try clear ho0); (try clear ho1); have p149 : 0 ≤ ((ji7) : Int) := of_decide_eq_true (by first | (with_reducible assumption) | assumption); have q149 : (ji7) < (l0.length : Int) := of_decide_eq_true (by first | (with_reducible assumption) | assumption); obtain ⟨ad149, A149_0, c149_0, e149, hx149_0, hl149_0, hi149_0⟩ := at_L1 HR0.out (ji7) p149 q149; cases e149; replace hx149_0 := (HB.out.cell (World.block_lt_of_cell? w _ hx149_0)).trans hx149_0; have HR149_0 := Aside0.mk hi149_0; have HC149_0 := Aside0.mk hl149_0; clear hi149_0 hl149_0; replace p149 := eq_true p149; replace q149 := eq_true q149; obtain ⟨Ao20, co20, eo20⟩ := Kd.R_slice HO146.out; subst eo20) | ((with_reducible refine gate_callee (f := 60) rfl ?_); refine goesL_ (some 40) rfl rfl Try.func60 (by kernel_rfl) rfl #[.slice Ao20 t143.length co20, .slice A149_0 (rd_L1 l0 (ji7)).length c149_0] rfl (by (try simp only [List.map_toArray, List.map_cons, List.map_nil]); first | done | (simp only [hji7]; rfl) | rfl | (simp only [List.length_drop, List.length_take]; rfl)) ?_; (with_reducible refine (slices_Equal_byte_byte.calls _ _ t143 _ _ (rd_L1 l0 (ji7)) true _ ?side1 ?side2 ?side3 ?side4 A12.out).mono ?_); (case side1 => repeat (first | exact (Kd.R_reads' HO146.out).2.2 | (with_reducible refine Kd.C_alloc ?_ _) | (with_reducible refine Kd.C_drewN ?_ _) | (with_reducible refine Kd.C_drew ?_))); (case side2 => exact (Kd.R_reads' HO146.out).2.1); (case side3 => repeat (first | exact (Kd.C_below HR149_0.out HB.out) | (with_reducible refine Kd.C_alloc ?_ _) | (with_reducible refine Kd.C_drewN ?_ _) | (with_reducible refine Kd.C_drew ?_))); (case side4 => exact HC149_0.out); rintro e w' ⟨rfl, ⟨nd, rfl⟩⟩; refine ⟨_, rfl, ?_⟩; have p151 : 0 ≤ ((ji14) : Int) := of_decide_eq_true (by first | (with_reducible assumption) | assumption); have q151 : (ji14) < (l0.length : Int) := of_decide_eq_true (by first | (with_reducible assumption) | assumption); obtain ⟨ad151, A151_0, c151_0, e151, hx151_0, hl151_0, hi151_0⟩ := at_L1 HR0.out (ji14) p151 q151; obtain rfl : ad149 = ad151 := (by injection e151); replace hx151_0 := (HB.out.cell (World.block_lt_of_cell? w _ hx151_0)).trans hx151_0; have HR151_0 := Aside0.mk hi151_0; have HC151_0 := Aside0.mk hl151_0; clear hi151_0 hl151_0; replace p151 := eq_true p151; replace q151 := eq_true q151; obtain ⟨Ao21, co21, eo21⟩ := Kd.R_slice HO148.out; subst eo21) | (go_at_call 60; (with_reducible refine (slices_Equal_byte_byte.calls _ _ t144 _ _ (rd_L1 l0 (ji14)) t152 _ ?side1 ?side2 ?side3 ?side4 A17.out).mono ?_); (case side1 => repeat (first | exact (Kd.R_reads' HO148.out).2.2 | (with_reducible refine Kd.C_alloc ?_ _) | (with_reducible refine Kd.C_drewN ?_ _) | (with_reducible refine Kd.C_drew ?_))); (case side2 => exact (Kd.R_reads' HO148.out).2.1); (case side3 => repeat (first | exact (Kd.C_below HR151_0.out (by repeat (first | (with_reducible first | exact HB.out | apply below_alloc | apply pw_below_drewN | apply below_drew1) | exact HB.out))) | (with_reducible refine Kd.C_alloc ?_ _) | (with_reducible refine Kd.C_drewN ?_ _) | (with_reducible refine Kd.C_drew ?_))); (case side4 => exact HC151_0.out); rintro e w' ⟨rfl, ⟨nd, rfl⟩⟩))
                    go_ret
                    exact ⟨by first | rfl | (simp [errW_none, errW_some] <;> rfl) | (simp only [← hji7, ← hji14]; first | rfl | (simp [errW_none, errW_some] <;> rfl)) | (simp [*, errW_none, errW_some] <;> rfl), by repeat (first | (with_reducible first | exact HB.out | apply below_alloc | apply pw_below_drewN | apply below_drew1) | exact HB.out)⟩
                  · rw [if_neg c16] at H
                    exact absurd H (by simp)
                · rw [if_neg c15] at H
                  exact absurd H (by simp)
              · replace c13 := Bool.eq_false_iff.mpr c13
                subst c13
                have H1 : (some false) = some r := by rw [if_neg (show ¬ (false = true) by decide)] at H; exact H
                clear H
                have H := H1
                clear H1
                obtain rfl := Option.some.inj H
                have q22 : ((ji7) : Int) ≤ ((l0.length : Int) : Int) := of_decide_eq_true (by first | (with_reducible assumption) | assumption)
                obtain ⟨i022, hi022, _, hsz22, _⟩ := info_parts info24
                have hroom22 : l0.length ≤ c0 := HC0.out
                have hC22 : Kd.C (Kd.slice 5 (Kd.int .u8)) _ A0 l0.length l0 := HR0.out
                have hcut22 := cut_to (P := Try.prog) 48 24 .i64 Try.underlying48 hi022 A0 l0.length c0 (ji7) (of_decide_eq_true (by first | (with_reducible assumption) | assumption)) q22 hroom22
                have hr22 := Kd.C_take (m := ((ji7) : Int).toNat) hC22 (by omega)
                have hy22 : y139.length = ((ji7) : Int).toNat := (by rw [Ny139.out, List.length_take]; omega)
                rw [← Ny139.out] at hr22
                rw [← hy22] at hcut22
                have HR142 := Aside0.mk hr22
                have HC142 := Aside0.mk (show y139.length ≤ c0 from by omega)
                clear hr22 hC22 hroom22 hi022 hsz22
                have KY22 := Aside0.mk hy22
                clear hy22
                replace q22 := eq_true q22
                go_wp2_with (first | ((with_reducible refine gate_callee (f := 59) rfl ?_); refine goesL_ (some 32) rfl rfl Try.func59 (by kernel_rfl) rfl #[.slice A0 y139.length c0] rfl (by (try simp only [List.map_toArray, List.map_cons, List.map_nil]); first | done | rfl | (simp only [List.length_drop, List.length_take]; rfl)) ?_; (with_reducible refine (rs_Parity.calls _ _ y139 t143 t144 _ ?side1 ?side2 A10.out).mono ?_); (case side1 => repeat (first | exact (Kd.C_below HR142.out HB.out) | (with_reducible refine Kd.C_alloc ?_ _) | (with_reducible refine Kd.C_drewN ?_ _) | (with_reducible refine Kd.C_drew ?_))); (case side2 => exact HC142.out); rintro e w23 ⟨v145, v147, rfl, ho0, ho1, hb⟩; refine ⟨_, rfl, ?_⟩; have n0_ := Aside0.mk (Kd.R_lower ho0 (below_size (by repeat (first | (with_reducible first | exact HB.out | apply below_alloc | apply pw_below_drewN | apply below_drew1) | exact HB.out)))); have n1_ := Aside0.mk (Kd.R_lower ho1 (below_size (by repeat (first | (with_reducible first | exact HB.out | apply below_alloc | apply pw_below_drewN | apply below_drew1) | exact HB.out)))); have n2_ := Aside0.mk (below_step (by repeat (first | (with_reducible first | exact HB.out | apply below_alloc | apply pw_below_drewN | apply below_drew1) | exact HB.out)) hb); clear HB; have HO146 := n0_; have HO148 := n1_; have HB := n2_; clear n0_ n1_ n2_; (try clear hb); (try clear hb2); (try clear hk); (try clear hi); (try clear ho0); (try clear ho1); have p149 : 0 ≤ ((ji7) : Int) := of_decide_eq_true (by first | (with_reducible assumption) | assumption); have q149 : (ji7) < (l0.length : Int) := of_decide_eq_true (by first | (with_reducible assumption) | assumption); obtain ⟨ad149, A149_0, c149_0, e149, hx149_0, hl149_0, hi149_0⟩ := at_L1 HR0.out (ji7) p149 q149; cases e149; replace hx149_0 := (HB.out.cell (World.block_lt_of_cell? w _ hx149_0)).trans hx149_0; have HR149_0 := Aside0.mk hi149_0; have HC149_0 := Aside0.mk hl149_0; clear hi149_0 hl149_0; replace p149 := eq_true p149; replace q149 := eq_true q149; obtain ⟨Ao24, co24, eo24⟩ := Kd.R_slice HO146.out; subst eo24) | ((with_reducible refine gate_callee (f := 60) rfl ?_); refine goesL_ (some 40) rfl rfl Try.func60 (by kernel_rfl) rfl #[.slice Ao24 t143.length co24, .slice A149_0 (rd_L1 l0 (ji7)).length c149_0] rfl (by (try simp only [List.map_toArray, List.map_cons, List.map_nil]); first | done | (simp only [hji7]; rfl) | rfl | (simp only [List.length_drop, List.length_take]; rfl)) ?_; (with_reducible refine (slices_Equal_byte_byte.calls _ _ t143 _ _ (rd_L1 l0 (ji7)) false _ ?side1 ?side2 ?side3 ?side4 A12.out).mono ?_); (case side1 => repeat (first | exact (Kd.R_reads' HO146.out).2.2 | (with_reducible refine Kd.C_alloc ?_ _) | (with_reducible refine Kd.C_drewN ?_ _) | (with_reducible refine Kd.C_drew ?_))); (case side2 => exact (Kd.R_reads' HO146.out).2.1); (case side3 => repeat (first | exact (Kd.C_below HR149_0.out HB.out) | (with_reducible refine Kd.C_alloc ?_ _) | (with_reducible refine Kd.C_drewN ?_ _) | (with_reducible refine Kd.C_drew ?_))); (case side4 => exact HC149_0.out); rintro e w' ⟨rfl, ⟨nd, rfl⟩⟩; refine ⟨_, rfl, ?_⟩))
                go_ret
                exact ⟨by first | rfl | (simp [errW_none, errW_some] <;> rfl) | (simp only [← hji7]; first | rfl | (simp [errW_none, errW_some] <;> rfl)) | (simp [*, errW_none, errW_some] <;> rfl), by repeat (first | (with_reducible first | exact HB.out | apply below_alloc | apply pw_below_drewN | apply below_drew1) | exact HB.out)⟩
            · rw [if_neg c11] at H
              exact absurd H (by simp)
          · rw [if_neg c9] at H
            exact absurd H (by simp)
        · rw [if_neg c8] at H
          exact absurd H (by simp)
end Go.Proofs.Ytodbmgafejclmaa.PRr
namespace Go.Proofs.Ytodbmgafejclmaa.Co
open Go.RowKit Go.Proofs.YtodbmgafejclmaaW.PrintWords
open Go.Proofs.Ytodbmgafejclmaa.PRq Go.Proofs.Ytodbmgafejclmaa.Fld Go.Proofs.Ytodbmgafejclmaa.Pl Go.Proofs.Ytodbmgafejclmaa.Ot Go.Proofs.Ytodbmgafejclmaa.Tw Go.Proofs.Ytodbmgafejclmaa.Kp Go.Proofs.Ytodbmgafejclmaa.Fw
set_option linter.unusedSimpArgs false
set_option linter.unusedVariables false
theorem equal_l0 (a b : List Int) (h : a.length = b.length) (hm : a.length ≤ 1000000) : ∀ d i, a.length - i = d → i ≤ a.length → Ev (fun k => slices_Equal_byte_byte.l0 k a b (a.length : Int) (i : Int)) (decide (a.drop i = b.drop i))
  | 0, i, hd, hi => by
    obtain rfl : i = a.length := by omega
    refine Ev.step (f := fun _ => some true) (fun k => ?_) ?_
    · rw [slices_Equal_byte_byte.l0, if_neg (by omega)]
    · rw [List.drop_length, h, List.drop_length]
      exact Ev.now _
  | d + 1, i, hd, hi => by
    have hia : i < a.length := by omega
    have hib : i < b.length := by omega
    have ea : a.drop i = a[i] :: a.drop (i + 1) := List.drop_eq_getElem_cons hia
    have eb : b.drop i = b[i] :: b.drop (i + 1) := List.drop_eq_getElem_cons hib
    by_cases hq : a[i] = b[i]
    · refine Ev.step (f := fun k => slices_Equal_byte_byte.l0 k a b (a.length : Int) ((i + 1 : Nat) : Int)) (fun k => ?_) ?_
      · rw [slices_Equal_byte_byte.l0, if_pos (by omega), if_pos (by omega), if_pos (by omega), if_pos (by omega), rd_nat, rd_nat, at_lt hia, at_lt hib, if_pos hq, w64 (by omega) (by omega)]; rfl
      · have := equal_l0 a b h hm d (i + 1) (by omega) (by omega)
        have e : decide (a.drop i = b.drop i) = decide (a.drop (i + 1) = b.drop (i + 1)) := by
          rw [decide_eq_decide, ea, eb, hq]
          exact ⟨fun h => (List.cons.inj h).2, fun h => by rw [h]⟩
        rw [e]
        exact this
    · refine Ev.step (f := fun _ => some false) (fun k => ?_) ?_
      · rw [slices_Equal_byte_byte.l0, if_pos (by omega), if_pos (by omega), if_pos (by omega), if_pos (by omega), rd_nat, rd_nat, at_lt hia, at_lt hib, if_neg hq]
      · have e : decide (a.drop i = b.drop i) = false := by
          rw [decide_eq_false_iff_not, ea, eb]
          exact fun h => hq (List.cons.inj h).1
        rw [e]
        exact Ev.now _
theorem equal_ev (a b : List Int) (hm : a.length ≤ 1000000) : Ev (fun k => slices_Equal_byte_byte.f k a b) (decide (a = b)) := by
  by_cases h : a.length = b.length
  · have := equal_l0 a b h hm a.length 0 (by omega) (by omega)
    simp only [List.drop_zero] at this
    refine Ev.congr (fun k => ?_) this
    rw [slices_Equal_byte_byte.f, if_pos (by omega)]
    rfl
  · refine Ev.congr (f := fun _ => some false) (fun k => ?_) ?_
    · rw [slices_Equal_byte_byte.f, if_neg (by omega)]
    · have e : decide (a = b) = false := by
        rw [decide_eq_false_iff_not]; intro h2; exact h (by rw [h2])
      rw [e]; exact Ev.now _
theorem equal_r (a b : List Int) (hm : a.length ≤ 1000000) : PRr.slices_Equal_byte_byte.f a b = some (decide (a = b)) := Lim.lim_ev (fun k => PRq.slices_Equal_byte_byte.mono _ _ k) (equal_ev a b hm)
theorem parity_r (L : List (List Int)) (n : Nat) (hn : ∀ r ∈ L, r.length = n) (hL : ∀ r ∈ L, Bytes r) (h2 : 2 ≤ L.length) (h14 : L.length ≤ 14) (hn2 : n ≤ 281474976710656) : PRr.rs_Parity.f L = some (sumP L n, sumQ L n) :=
  Lim.lim_ev (fun k => PRq.rs_Parity.mono _ k) (parity_ev L n hn hL h2 h14 hn2)
theorem alike_l0 : ∀ (k : Nat) (n : Int) (L : List (List Int)) (m i : Int), PRr.rs_alike.l0 k n L m i = PRq.rs_alike.l0 k n L m i
  | 0, _, _, _, _ => rfl
  | k + 1, n, L, m, i => by
    have ih := alike_l0 k
    simp only [PRr.rs_alike.l0, PRq.rs_alike.l0, ih]
    rfl
theorem alike_f (k : Nat) (L : List (List Int)) : PRr.rs_alike.f k L = PRq.rs_alike.f k L := alike_l0 k 0 L _ 0
theorem check_ev (L : List (List Int)) (n d : Nat) (hL : GoodR n L) (hd : L.length = d + 2) (h4 : 4 ≤ L.length) (h16 : L.length ≤ 16) (hn : n ≤ 1000000) : Ev (fun k => PRr.rs_Check.f k L) (decide (sumP (L.take d) n = row L d) && decide (sumQ (L.take d) n = row L (d + 1))) := by
  have ha := alike_ev L (by omega)
  rw [if_pos (alikeR_of (fun r h => (hL r h).1))] at ha
  have hr : Ev (fun k => PRr.rs_alike.f k L) ((lenR L : Nat), true) := Ev.congr (fun k => alike_f k L) ha
  refine Ev.bind hr ?_
  refine Ev.congr (f := fun k => PRr.rs_Check.j0 k L false) (fun k => ?_) ?_
  · rw [if_pos rfl, if_neg (by omega), decide_eq_false (by omega)]
  · refine Ev.step (f := fun _ => some (decide (sumP (L.take d) n = row L d) && decide (sumQ (L.take d) n = row L (d + 1)))) (fun k => ?_) (Ev.now _)
    have e1 : wrap64 ((L.length : Int) - 2) = (d : Int) := by rw [w64 (by omega) (by omega)]; omega
    have e2 : wrap64 ((d : Int) + 1) = ((d + 1 : Nat) : Int) := by rw [w64 (by omega) (by omega)]; rfl
    have hp := parity_r (L.take d) n (fun r h => (good_take hL r h).1) (fun r h => (good_take hL r h).2) (by rw [List.length_take]; omega) (by rw [List.length_take]; omega) (by omega)
    have r1 : ∀ j : Nat, PRr.rd_L1 L (j : Int) = row L j := fun j => by unfold PRr.rd_L1 row; simp
    rw [PRr.rs_Check.j0, if_neg (by simp), e1, if_pos (by omega), if_pos (by omega), Int.toNat_natCast, hp]
    simp only [Option.bind_some]
    rw [if_pos (by omega), r1, equal_r _ _ (by rw [sumP_len]; exact hn)]
    simp only [Option.bind_some]
    by_cases hq : sumP (L.take d) n = row L d
    · rw [decide_eq_true hq, if_pos rfl, e2, if_pos (by omega), if_pos (by omega), r1, equal_r _ _ (by rw [sumQ_len]; exact hn)]
      rfl
    · rw [decide_eq_false hq, if_neg (by simp)]
      rfl
theorem ownR_nil (L : List (List Int)) (n : Nat) : ownR L [] n = L := by
  apply List.ext_getElem (by simp [ownR])
  intro i h1 h2
  simp [ownR]
theorem fixR_nil (L : List (List Int)) : fixR L [] = L := by
  unfold fixR
  simp [srt, dataR, parR, ownR_nil]
theorem fixF_of {L : List (List Int)} {lost : List Int} (hb : ∀ r ∈ L, Bytes r) (hl : ∀ r ∈ L, r.length ≤ 1000000) (h1 : lost.length ≤ 1000000) (h2 : L.length ≤ 1000000) : fixF L lost = if mayB L lost then some (fixR L lost, true) else some ([], false) := by
  unfold fixF
  rw [if_pos ⟨hb, hl, h1, h2⟩]
end Go.Proofs.Ytodbmgafejclmaa.Co
namespace Go.Proofs.Ytodbmgafejclmaa.Cw
open Go.RowKit Go.Proofs.YtodbmgafejclmaaW.PrintWords
open Go.Proofs.Ytodbmgafejclmaa.PRq Go.Proofs.Ytodbmgafejclmaa.Fld Go.Proofs.Ytodbmgafejclmaa.Pl Go.Proofs.Ytodbmgafejclmaa.Ot Go.Proofs.Ytodbmgafejclmaa.Tw Go.Proofs.Ytodbmgafejclmaa.Kp Go.Proofs.Ytodbmgafejclmaa.Fw Go.Proofs.Ytodbmgafejclmaa.Co
open Go.Proofs.Ytodbmgafejclmaa.Base (mulN)
set_option linter.unusedSimpArgs false
set_option linter.unusedVariables false
theorem parR_len : ∀ (gone : List Nat) (out : List (List Int)) (d n : Nat), (parR out gone d n).length = out.length
  | [], _, _, _ => rfl
  | i :: t, out, d, n => by
    show (parR (if i ≥ d then out.set i _ else out) t d n).length = _
    rw [parR_len t]
    split <;> simp
theorem parR_row : ∀ (gone : List Nat) (out : List (List Int)) (d n j : Nat), j ∉ gone → row (parR out gone d n) j = row out j
  | [], _, _, _, _, _ => rfl
  | i :: t, out, d, n, j, h => by
    rw [List.mem_cons, not_or] at h
    show row (parR (if i ≥ d then out.set i _ else out) t d n) j = _
    rw [parR_row t _ d n j h.2]
    split
    · exact Tw.row_set_ne (Ne.symm h.1) _
    · rfl
theorem dataR_len (out : List (List Int)) (gone : List Nat) (d : Nat) (p q : List Int) : (dataR out gone d p q).length = out.length := by
  unfold dataR
  split
  · rfl
  · split <;> simp
  · split
    · rfl
    · split
      · exact two_len _ _ _ _ _
      · split <;> simp
theorem dataR_row (out : List (List Int)) (gone : List Nat) (d j : Nat) (p q : List Int) (h : j ∉ gone) : row (dataR out gone d p q) j = row out j := by
  unfold dataR
  split
  · rfl
  · simp only [List.mem_singleton] at h
    split
    · rfl
    · exact Tw.row_set_ne (Ne.symm h) _
  · rename_i a b t
    simp only [List.mem_cons, not_or] at h
    split
    · rfl
    · split
      · unfold twoR
        rw [Tw.row_set_ne (Ne.symm h.2.1), Tw.row_set_ne (Ne.symm h.1)]
      · split
        · exact Tw.row_set_ne (Ne.symm h.1) _
        · exact Tw.row_set_ne (Ne.symm h.1) _
theorem srt_mem {lost : List Int} {x : Int} (h2 : lost.length ≤ 2) : x ∈ srt lost ↔ x ∈ lost := by
  match lost, h2 with
  | [], _ => rfl
  | [a], _ => rfl
  | [a, b], _ =>
    unfold srt
    by_cases h : a ≤ b
    · simp [h]
    · simp [h, or_comm]
theorem row_ext {A B : List (List Int)} (h1 : A.length = B.length) (h : ∀ i, i < A.length → row A i = row B i) : A = B := by
  apply List.ext_getElem h1
  intro i h2 h3
  rw [← row_lt h2, ← row_lt h3, h i h2]
theorem ownR_row (L : List (List Int)) (lost : List Int) (n i : Nat) (hi : i < L.length) : row (ownR L lost n) i = if lost.contains (i : Int) then List.replicate n 0 else row L i := by
  rw [row_lt (by rw [own_len]; exact hi), row_lt hi]
  simp only [ownR, List.getElem_mapIdx]
theorem fixR_len (L : List (List Int)) (lost : List Int) : (fixR L lost).length = L.length := by
  unfold fixR
  simp only
  rw [parR_len, dataR_len, own_len]
theorem fixR_row (L : List (List Int)) (lost : List Int) (h2 : lost.length ≤ 2) (i : Nat) (hi : i < L.length) (hc : lost.contains (i : Int) = false) (h0 : ∀ x ∈ lost, 0 ≤ x) : row (fixR L lost) i = row L i := by
  have hn : i ∉ (srt lost).map Int.toNat := by
    intro h
    obtain ⟨x, hx, e⟩ := List.mem_map.1 h
    rw [srt_mem h2] at hx
    have h1 := h0 x hx
    have e2 : x = (i : Int) := by omega
    rw [e2] at hx
    have : lost.contains (i : Int) = true := by simpa using hx
    rw [this] at hc
    cases hc
  unfold fixR
  simp only
  rw [parR_row _ _ _ _ _ hn, dataR_row _ _ _ _ _ _ hn, ownR_row _ _ _ _ hi, hc]
  simp
theorem again (L : List (List Int)) (lost : List Int) (h2 : lost.length ≤ 2) (h0 : ∀ x ∈ lost, 0 ≤ x) : kept (fixR L lost) lost = kept L lost ∧ (∀ n, ownR (fixR L lost) lost n = ownR L lost n) ∧ fixR (fixR L lost) lost = fixR L lost ∧ mayB (fixR L lost) lost = mayB L lost := by
  have hl := fixR_len L lost
  have hr : ∀ i, i < L.length → lost.contains (i : Int) = false → row (fixR L lost) i = row L i := fun i hi hc => fixR_row L lost h2 i hi hc h0
  have hk : kept (fixR L lost) lost = kept L lost := by
    rw [kept_idx, kept_idx, hl]
    apply List.map_congr_left
    intro i hi
    have h3 := idx_lt hi
    unfold idx at hi
    rw [List.mem_filter] at hi
    exact hr i h3 (by simpa using hi.2)
  have ho : ∀ n, ownR (fixR L lost) lost n = ownR L lost n := fun n => by
    refine row_ext (by rw [own_len, own_len, hl]) (fun i hi => ?_)
    rw [own_len, hl] at hi
    rw [ownR_row _ _ _ _ (by rw [hl]; exact hi), ownR_row _ _ _ _ hi]
    split
    · rfl
    · rename_i hc
      exact hr i hi (Bool.eq_false_iff.2 hc)
  refine ⟨hk, ho, ?_, ?_⟩
  · generalize hX : fixR L lost = X at hk ho hl
    unfold fixR
    simp only
    rw [hk, ho, hl]
    rw [← hX]
    unfold fixR
    rfl
  · unfold mayB
    rw [hk, hl]
theorem xorI_cancel (u p v : Int) : xorI (xorI u p) (xorI u v) = xorI v p := by
  unfold xorI
  simp only [Int.toNat_natCast]
  congr 1
  rw [Nat.xor_comm u.toNat p.toNat, Nat.xor_assoc, ← Nat.xor_assoc u.toNat, Nat.xor_self, Nat.zero_xor, Nat.xor_comm]
theorem pS_set : ∀ (L : List (List Int)) (a : Nat) (r : List Int) (k : Nat), a < L.length → pS (L.set a r) k = xorI (pS L k) (xorI (at_ (row L a) k) (at_ r k))
  | r0 :: L, 0, r, k, _ => by
    simp only [List.set_cons_zero, pS]
    have e : row (r0 :: L) 0 = r0 := rfl
    rw [e, xorI_cancel]
  | r0 :: L, a + 1, r, k, h => by
    simp only [List.set_cons_succ, pS]
    have e : row (r0 :: L) (a + 1) = row L a := rfl
    rw [e, pS_set L a r k (by simpa using h), xorI_assoc]
theorem qS_set : ∀ (L : List (List Int)) (s a : Nat) (r : List Int) (k : Nat), a < L.length → (∀ x ∈ L, Bytes x) → Bytes r → qS s (L.set a r) k = xorI (qS s L k) (mulI (expI (s + a)) (xorI (at_ (row L a) k) (at_ r k)))
  | r0 :: L, s, 0, r, k, _, hL, hr => by
    simp only [List.set_cons_zero, qS]
    have e : row (r0 :: L) 0 = r0 := rfl
    rw [e, mulI_xor (byt_at (hL r0 (by simp)) k) (byt_at hr k), show s + 0 = s from rfl, xorI_cancel]
  | r0 :: L, s, a + 1, r, k, h, hL, hr => by
    simp only [List.set_cons_succ, qS]
    have e : row (r0 :: L) (a + 1) = row L a := rfl
    have e2 : s + 1 + a = s + (a + 1) := by omega
    rw [e, qS_set L (s + 1) a r k (by simpa using h) (fun x hx => hL x (by simp [hx])) hr, xorI_assoc, e2]
theorem addR_at (t x : List Int) (b : Int) (k : Nat) (h1 : k < t.length) (h2 : k < x.length) : at_ (addR t x b) k = xorI (at_ t k) (mulI (at_ x k) b) := by
  rw [at_lt (by rw [addR_len]; exact h1), at_lt h1]
  simp [addR, h2]
theorem mulI_inv {x : Int} (hx : Byt x) (h0 : x ≠ 0) : mulI x (invI x) = 1 := by
  obtain ⟨a, rfl⟩ := Int.eq_ofNat_of_zero_le hx.1
  unfold mulI invI
  have h2 := hx.2
  have := mul_inv (a := a) (by omega) (by intro h; exact h0 (by rw [h]; rfl))
  simp only [Int.ofNat_eq_natCast, Int.toNat_natCast] at *
  rw [this]; rfl
theorem xorI_self_left {x : Int} (y : Int) (h : Byt y) : xorI x (xorI x y) = y := by
  rw [← xorI_assoc, xorI_self, zero_xorI h]
theorem mul_cancel {x y : Int} (hx : Byt x) (hy : Byt y) (h0 : x ≠ 0) : mulI x (mulI y (invI x)) = y := by
  rw [mulI_comm hy (byt_inv hx), ← mulI_assoc hx (byt_inv hx) hy, mulI_inv hx h0, mulI_comm ⟨by omega, by omega⟩ hy, mulI_one hy]
theorem solve_q {x Q w : Int} (hx : Byt x) (h0 : x ≠ 0) (hQ : Byt Q) (hw : Byt w) : xorI Q (mulI x (xorI 0 (xorI 0 (mulI (xorI Q (mulI w 1)) (invI x))))) = w := by
  rw [mulI_one hw, zero_xorI (byt_mul (byt_inv hx)), zero_xorI (byt_mul (byt_inv hx)), mul_cancel hx (byt_xor hQ hw) h0, xorI_self_left _ hw]
theorem solve_p {P v : Int} (hP : Byt P) (hv : Byt v) : xorI P (xorI 0 (xorI 0 (mulI (xorI P (mulI v 1)) 1))) = v := by
  have h1 : Byt 1 := ⟨by omega, by omega⟩
  rw [mulI_one hv, mulI_one (byt_xor hP hv), zero_xorI (byt_xor hP hv), zero_xorI (byt_xor hP hv), xorI_self_left _ hv]
theorem two_p {P p r : Int} (hP : Byt P) (hp : Byt p) (hr : Byt r) : xorI (xorI P (xorI 0 r)) (xorI 0 (xorI (xorI 0 (mulI p 1)) (mulI r 1))) = xorI P p := by
  rw [mulI_one hp, mulI_one hr, zero_xorI hr, zero_xorI hp, zero_xorI (byt_xor hp hr), xorI_comm p r, xorI_assoc, xorI_self_left _ hp]
theorem two_q {x y Q q p : Int} (hx : Byt x) (hy : Byt y) (h0 : xorI x y ≠ 0) (hQ : Byt Q) (hq : Byt q) (hp : Byt p) {r : Int} (hr : r = xorI (xorI 0 (mulI q (invI (xorI x y)))) (mulI p (mulI (invI (xorI x y)) y))) :
    xorI (xorI Q (mulI x (xorI 0 r))) (mulI y (xorI 0 (xorI (xorI 0 (mulI p 1)) (mulI r 1)))) = xorI Q q := by
  have hz := byt_xor hx hy
  have hE := byt_inv hz
  have br : Byt r := by rw [hr]; exact byt_xor (byt_xor byt_zero (byt_mul hE)) (byt_mul (byt_mul hy))
  have e1 : mulI (xorI x y) r = xorI q (mulI y p) := by
    rw [hr, zero_xorI (byt_mul hE), mulI_xor (byt_mul hE) (byt_mul (byt_mul hy)), mul_cancel hz hq h0, mulI_comm hE hy, ← mulI_assoc hp hy hE, mul_cancel hz (byt_mul hy) h0, mulI_comm hp hy]
  have e2 : mulI (xorI x y) r = xorI (mulI x r) (mulI y r) := by
    rw [mulI_comm hz br, mulI_xor hx hy, mulI_comm br hx, mulI_comm br hy]
  rw [mulI_one hp, mulI_one br, zero_xorI br, zero_xorI hp, zero_xorI (byt_xor hp br), mulI_xor hp br, xorI_swap, ← e2, e1, xorI_comm Q (mulI y p), xorI_comm q (mulI y p), xorI_cancel, xorI_comm]
theorem take_set_lt {L : List (List Int)} (i d : Nat) (r : List Int) : (L.set i r).take d = (L.take d).set i r := by
  apply List.ext_getElem (by simp)
  intro j h1 h2
  have hj : j < (L.take d).length := by simpa using h2
  rw [List.getElem_take, List.getElem_set, List.getElem_set]
  split
  · rfl
  · rw [List.getElem_take]
theorem take_set_ge {L : List (List Int)} {i d : Nat} (h : d ≤ i) (r : List Int) : (L.set i r).take d = L.take d := by
  rw [take_set_lt, List.set_eq_of_length_le (by rw [List.length_take]; omega)]
theorem row_take {L : List (List Int)} {i d : Nat} (h : i < d) : row (L.take d) i = row L i := by unfold row; simp [List.getElem?_take, h]
theorem at_zero (n k : Nat) : at_ (List.replicate n 0) k = 0 := by
  unfold at_
  rw [List.getD_eq_getElem?_getD, List.getElem?_replicate]
  split <;> rfl
/-- with two rows lost the parities come out right -/
theorem code_two {R : List (List Int)} {n d a b : Nat} (hR : GoodR n R) (hl : R.length = d + 2) (hab : a < b) (hb : b < d + 2) (h16 : R.length ≤ 16) (za : row R a = List.replicate n 0) (zb : row R b = List.replicate n 0) {X : List (List Int)}
    (hX : X = parR (dataR R [a, b] d (addR (sumP (R.take d) n) (row R d) 1) (addR (sumQ (R.take d) n) (row R (d + 1)) 1)) [a, b] d n) : sumP (X.take d) n = row X d ∧ sumQ (X.take d) n = row X (d + 1) := by
  have gT := good_take (m := d) hR
  have bT : ∀ x ∈ R.take d, Bytes x := fun x hx => (gT x hx).2
  have lT : (R.take d).length = d := by rw [List.length_take]; omega
  obtain ⟨gd1, gd2⟩ := Tw.good_row hR (i := d) (by omega)
  obtain ⟨ge1, ge2⟩ := Tw.good_row hR (i := d + 1) (by omega)
  have hpS : ∀ k, Byt (pS (R.take d) k) := fun k => byt_pS _ k bT
  have hqS : ∀ k, Byt (qS 0 (R.take d) k) := fun k => byt_qS 0 _ k bT
  have pk : ∀ k, k < n → at_ (addR (sumP (R.take d) n) (row R d) 1) k = xorI (pS (R.take d) k) (mulI (at_ (row R d) k) 1) := fun k hk => by
    rw [addR_at _ _ _ _ (by rw [sumP_len]; exact hk) (by rw [gd1]; exact hk), sumP_at _ hk]
  have qk : ∀ k, k < n → at_ (addR (sumQ (R.take d) n) (row R (d + 1)) 1) k = xorI (qS 0 (R.take d) k) (mulI (at_ (row R (d + 1)) k) 1) := fun k hk => by
    rw [addR_at _ _ _ _ (by rw [sumQ_len]; exact hk) (by rw [ge1]; exact hk), sumQ_at _ hk]
  have hpl : (addR (sumP (R.take d) n) (row R d) 1).length = n := by rw [addR_len, sumP_len]
  have hql : (addR (sumQ (R.take d) n) (row R (d + 1)) 1).length = n := by rw [addR_len, sumQ_len]
  have b1 : Byt 1 := ⟨by omega, by omega⟩
  have bp : Bytes (addR (sumP (R.take d) n) (row R d) 1) := bytes_addR (bytes_sumP _ _ bT) gd2 b1
  have bq : Bytes (addR (sumQ (R.take d) n) (row R (d + 1)) 1) := bytes_addR (bytes_sumQ _ _ bT) ge2 b1
  obtain ⟨p, hp⟩ : ∃ p, p = addR (sumP (R.take d) n) (row R d) 1 := ⟨_, rfl⟩
  obtain ⟨q, hq⟩ : ∃ q, q = addR (sumQ (R.take d) n) (row R (d + 1)) 1 := ⟨_, rfl⟩
  rw [← hp] at pk hpl bp hX
  rw [← hq] at qk hql bq hX
  have ex : ∀ i, expI i ≠ 0 := fun i h => pw_ne_zero i (by unfold expI at h; omega)
  by_cases had : d ≤ a
  · obtain rfl : a = d := by omega
    obtain rfl : b = a + 1 := by omega
    have hX2 : X = (R.set a (sumP (R.take a) n)).set (a + 1) (sumQ (R.take a) n) := by
      rw [hX]
      simp [dataR, parR, take_set_ge (Nat.le_refl a)]
    have ht : X.take a = R.take a := by rw [hX2, take_set_ge (by omega), take_set_ge (Nat.le_refl a)]
    rw [ht, hX2]
    refine ⟨?_, ?_⟩
    · rw [Tw.row_set_ne (by omega), Tw.row_set_self (by omega)]
    · rw [Tw.row_set_self (by rw [List.length_set]; omega)]
  · have haT : a < (R.take d).length := by omega
    have raT : row (R.take d) a = List.replicate n 0 := by rw [row_take (by omega)]; exact za
    have raL : (row R a).length = n := by rw [za]; simp
    have raB : Bytes (row R a) := by rw [za]; intro x hx; rw [List.mem_replicate] at hx; rw [hx.2]; exact byt_zero
    by_cases hbd : b < d
    · have hX2 : X = twoR R a b p q := by
        rw [hX]
        simp [dataR, parR, had, hbd, show ¬ d ≤ b from by omega]
      obtain ⟨ra, hra⟩ : ∃ ra, ra = addR (addR (row R a) q (invI (xorI (expI a) (expI b)))) p (mulI (invI (xorI (expI a) (expI b))) (expI b)) := ⟨_, rfl⟩
      obtain ⟨rb, hrb⟩ : ∃ rb, rb = addR (addR (row R b) p 1) ra 1 := ⟨_, rfl⟩
      have hX3 : X = (R.set a ra).set b rb := by rw [hX2, hrb, hra]; rfl
      have bE := byt_inv (byt_xor (byt_exp a) (byt_exp b))
      have rbL : (row R b).length = n := by rw [zb]; simp
      have rbB : Bytes (row R b) := by rw [zb]; intro x hx; rw [List.mem_replicate] at hx; rw [hx.2]; exact byt_zero
      have bra : Bytes ra := by rw [hra]; exact bytes_addR (bytes_addR raB bq bE) bp (byt_mul (byt_exp b))
      have lra : ra.length = n := by rw [hra, addR_len, addR_len, raL]
      have brb : Bytes rb := by rw [hrb]; exact bytes_addR (bytes_addR rbB bp b1) bra b1
      have rk : ∀ k, k < n → at_ ra k = xorI (xorI 0 (mulI (at_ q k) (invI (xorI (expI a) (expI b))))) (mulI (at_ p k) (mulI (invI (xorI (expI a) (expI b))) (expI b))) := fun k hk => by
        rw [hra, addR_at _ _ _ _ (by rw [addR_len, raL]; exact hk) (by rw [hpl]; exact hk), addR_at _ _ _ _ (by rw [raL]; exact hk) (by rw [hql]; exact hk), za, at_zero]
      have sk : ∀ k, k < n → at_ rb k = xorI (xorI 0 (mulI (at_ p k) 1)) (mulI (at_ ra k) 1) := fun k hk => by
        rw [hrb, addR_at _ _ _ _ (by rw [addR_len, rbL]; exact hk) (by rw [lra]; exact hk), addR_at _ _ _ _ (by rw [rbL]; exact hk) (by rw [hpl]; exact hk), zb, at_zero]
      have ht : X.take d = ((R.take d).set a ra).set b rb := by rw [hX3, take_set_lt, take_set_lt]
      have hbT : b < ((R.take d).set a ra).length := by rw [List.length_set]; omega
      have rbT : row ((R.take d).set a ra) b = List.replicate n 0 := by rw [Tw.row_set_ne (by omega), row_take hbd]; exact zb
      have bS : ∀ x ∈ (R.take d).set a ra, Bytes x := by
        intro x hx
        rcases List.mem_or_eq_of_mem_set hx with hx | rfl
        · exact bT x hx
        · exact bra
      have hrd : ∀ j, d ≤ j → row X j = row R j := fun j hj => by rw [hX3, Tw.row_set_ne (by omega), Tw.row_set_ne (by omega)]
      refine ⟨?_, ?_⟩
      · rw [ht, hrd d (Nat.le_refl d)]
        refine ext_at (by rw [sumP_len, gd1]) (fun k hk => ?_)
        rw [sumP_len] at hk
        rw [sumP_at _ hk, pS_set _ b rb k hbT, rbT, at_zero, pS_set _ a ra k haT, raT, at_zero, sk k hk, two_p (hpS k) (byt_at bp k) (byt_at bra k), pk k hk, mulI_one (byt_at gd2 k), xorI_self_left _ (byt_at gd2 k)]
      · rw [ht, hrd (d + 1) (by omega)]
        refine ext_at (by rw [sumQ_len, ge1]) (fun k hk => ?_)
        rw [sumQ_len] at hk
        rw [sumQ_at _ hk, qS_set _ 0 b rb k hbT bS brb, rbT, at_zero, qS_set _ 0 a ra k haT bT bra, raT, at_zero, sk k hk, Nat.zero_add, Nat.zero_add,
          two_q (byt_exp a) (byt_exp b) (Tw.xor_ne (by omega) (by omega) (by omega)) (hqS k) (byt_at bq k) (byt_at bp k) (rk k hk), qk k hk, mulI_one (byt_at ge2 k), xorI_self_left _ (byt_at ge2 k)]
    · by_cases hbe : b = d
      · obtain ⟨ra, hra⟩ : ∃ ra, ra = addR (row R a) q (invI (expI a)) := ⟨_, rfl⟩
        have hX2 : X = (R.set a ra).set d (sumP ((R.set a ra).take d) n) := by
          rw [hX, hra]
          simp [dataR, parR, had, hbe]
        have ht : X.take d = (R.take d).set a ra := by rw [hX2, take_set_ge (Nat.le_refl d), take_set_lt]
        have bra : Bytes ra := by rw [hra]; exact bytes_addR raB bq (byt_inv (byt_exp a))
        refine ⟨?_, ?_⟩
        · rw [ht, hX2, Tw.row_set_self (by rw [List.length_set]; omega), take_set_lt]
        · rw [ht, hX2, Tw.row_set_ne (by omega), Tw.row_set_ne (by omega)]
          refine ext_at (by rw [sumQ_len, ge1]) (fun k hk => ?_)
          rw [sumQ_len] at hk
          rw [sumQ_at _ hk, qS_set _ 0 a ra k haT bT bra, raT, at_zero, hra, addR_at _ _ _ _ (by rw [raL]; exact hk) (by rw [hql]; exact hk), za, at_zero, qk k hk, Nat.zero_add]
          exact solve_q (byt_exp a) (ex a) (hqS k) (byt_at ge2 k)
      · obtain rfl : b = d + 1 := by omega
        obtain ⟨ra, hra⟩ : ∃ ra, ra = addR (row R a) p 1 := ⟨_, rfl⟩
        have hX2 : X = (R.set a ra).set (d + 1) (sumQ ((R.set a ra).take d) n) := by
          rw [hX, hra]
          simp [dataR, parR, had, show ¬ d + 1 < d from by omega]
        have ht : X.take d = (R.take d).set a ra := by rw [hX2, take_set_ge (by omega), take_set_lt]
        refine ⟨?_, ?_⟩
        · rw [ht, hX2, Tw.row_set_ne (by omega), Tw.row_set_ne (by omega)]
          refine ext_at (by rw [sumP_len, gd1]) (fun k hk => ?_)
          rw [sumP_len] at hk
          rw [sumP_at _ hk, pS_set _ a ra k haT, raT, at_zero, hra, addR_at _ _ _ _ (by rw [raL]; exact hk) (by rw [hpl]; exact hk), za, at_zero, pk k hk]
          exact solve_p (hpS k) (byt_at gd2 k)
        · rw [ht, hX2, Tw.row_set_self (by rw [List.length_set]; omega), take_set_lt]
end Go.Proofs.Ytodbmgafejclmaa.Cw
namespace Go.Proofs.Ytodbmgafejclmaa.Cd
open Go.RowKit Go.Proofs.YtodbmgafejclmaaW.PrintWords
open Go.Proofs.Ytodbmgafejclmaa.PRq Go.Proofs.Ytodbmgafejclmaa.Fld Go.Proofs.Ytodbmgafejclmaa.Pl Go.Proofs.Ytodbmgafejclmaa.Ot Go.Proofs.Ytodbmgafejclmaa.Tw Go.Proofs.Ytodbmgafejclmaa.Kp Go.Proofs.Ytodbmgafejclmaa.Fw Go.Proofs.Ytodbmgafejclmaa.Co Go.Proofs.Ytodbmgafejclmaa.Cw
set_option linter.unusedSimpArgs false
set_option linter.unusedVariables false
/-- rows of which the last two are the parities of the others -/
structure Code (A : List (List Int)) (n d : Nat) : Prop where
  good : GoodR n A
  len : A.length = d + 2
  p : sumP (A.take d) n = row A d
  q : sumQ (A.take d) n = row A (d + 1)
theorem xorI_eq {x y : Int} (hx : Byt x) (hy : Byt y) (h : xorI x y = 0) : x = y := by
  have h1 := congrArg (xorI x) h
  rw [xorI_self_left _ hy, xorI_zero hx] at h1
  exact h1.symm
theorem mulI_eq_zero {x y : Int} (hx : Byt x) (hy : Byt y) (h0 : x ≠ 0) (h : mulI x y = 0) : y = 0 := by
  have h1 := congrArg (mulI (invI x)) h
  rw [← mulI_assoc (byt_inv hx) hx hy, mulI_comm (byt_inv hx) hx, mulI_inv hx h0, mulI_zero (byt_inv hx), mulI_comm ⟨by omega, by omega⟩ hy, mulI_one hy] at h1
  exact h1
theorem row_at_ext {A B : List (List Int)} {n i : Nat} (hA : GoodR n A) (hB : GoodR n B) (hi : i < A.length) (hj : i < B.length) (h : ∀ k, k < n → at_ (row A i) k = at_ (row B i) k) : row A i = row B i := by
  have h1 := (Tw.good_row hA hi).1
  have h2 := (Tw.good_row hB hj).1
  exact ext_at (by rw [h1, h2]) (fun k hk => h k (by rw [← h1]; exact hk))
/-- rows that are alike but for one -/
theorem set_of {A B : List (List Int)} {a : Nat} (hl : A.length = B.length) (h : ∀ j, j < A.length → j ≠ a → row A j = row B j) : B = A.set a (row B a) := by
  refine row_ext (by rw [List.length_set, hl]) (fun j hj => ?_)
  by_cases e : j = a
  · subst e
    rw [Tw.row_set_self (by omega)]
  · rw [Tw.row_set_ne (Ne.symm e), h j (by omega) e]
theorem set_of2 {A B : List (List Int)} {a b : Nat} (hab : a ≠ b) (hl : A.length = B.length) (h : ∀ j, j < A.length → j ≠ a → j ≠ b → row A j = row B j) : B = (A.set a (row B a)).set b (row B b) := by
  refine row_ext (by rw [List.length_set, List.length_set, hl]) (fun j hj => ?_)
  by_cases e : j = b
  · subst e
    rw [Tw.row_set_self (by rw [List.length_set]; omega)]
  · rw [Tw.row_set_ne (Ne.symm e)]
    by_cases e2 : j = a
    · subst e2
      rw [Tw.row_set_self (by omega)]
    · rw [Tw.row_set_ne (Ne.symm e2), h j (by omega) e2 e]
theorem uniq {A B : List (List Int)} {n d a b : Nat} (hA : Code A n d) (hB : Code B n d) (h16 : d + 2 ≤ 16) (hab : a < b) (hb : b < d + 2) (h : ∀ j, j < d + 2 → j ≠ a → j ≠ b → row A j = row B j) : A = B := by
  have lA := hA.len
  have lB := hB.len
  have gT := good_take (m := d) hA.good
  have gU := good_take (m := d) hB.good
  have bT : ∀ x ∈ A.take d, Bytes x := fun x hx => (gT x hx).2
  have lT : (A.take d).length = d := by rw [List.length_take]; omega
  have lU : (B.take d).length = d := by rw [List.length_take]; omega
  have byA : ∀ i k, i < d + 2 → Byt (at_ (row A i) k) := fun i k hi => byt_at (Tw.good_row hA.good (by omega)).2 k
  have byB : ∀ i k, i < d + 2 → Byt (at_ (row B i) k) := fun i k hi => byt_at (Tw.good_row hB.good (by omega)).2 k
  have rT : ∀ j, j < d → row (A.take d) j = row A j := fun j hj => row_take hj
  have rU : ∀ j, j < d → row (B.take d) j = row B j := fun j hj => row_take hj
  have pA : ∀ k, k < n → pS (A.take d) k = at_ (row A d) k := fun k hk => by rw [← hA.p, sumP_at _ hk]
  have qA : ∀ k, k < n → qS 0 (A.take d) k = at_ (row A (d + 1)) k := fun k hk => by rw [← hA.q, sumQ_at _ hk]
  have pB : ∀ k, k < n → pS (B.take d) k = at_ (row B d) k := fun k hk => by rw [← hB.p, sumP_at _ hk]
  have qB : ∀ k, k < n → qS 0 (B.take d) k = at_ (row B (d + 1)) k := fun k hk => by rw [← hB.q, sumQ_at _ hk]
  have ex : ∀ i, expI i ≠ 0 := fun i h => pw_ne_zero i (by unfold expI at h; omega)
  -- the data are the same
  have hdata : ∀ j, j < d → row A j = row B j := by
    by_cases had : d ≤ a
    · exact fun j hj => h j (by omega) (by omega) (by omega)
    by_cases hbd : b < d
    · -- both are data
      have hS : B.take d = ((A.take d).set a (row B a)).set b (row B b) := by
        have := set_of2 (A := A.take d) (B := B.take d) (a := a) (b := b) (by omega) (by rw [lT, lU]) (fun j hj h1 h2 => by rw [lT] at hj; rw [rT j hj, rU j hj]; exact h j (by omega) h1 h2)
        rwa [rU a (by omega), rU b hbd] at this
      have bS : ∀ x ∈ (A.take d).set a (row B a), Bytes x := by
        intro x hx
        rcases List.mem_or_eq_of_mem_set hx with hx | rfl
        · exact bT x hx
        · exact (Tw.good_row hB.good (by omega)).2
      have key : ∀ k, k < n → at_ (row A a) k = at_ (row B a) k ∧ at_ (row A b) k = at_ (row B b) k := by
        intro k hk
        have e1 := pB k hk
        have e2 := qB k hk
        have r2 : row ((A.take d).set a (row B a)) b = row A b := by rw [Tw.row_set_ne (by omega), rT b hbd]
        rw [hS, pS_set _ b _ k (by rw [List.length_set, lT]; exact hbd), r2, pS_set _ a _ k (by rw [lT]; omega), rT a (by omega), pA k hk, ← h d (by omega) (by omega) (by omega)] at e1
        rw [hS, qS_set _ 0 b _ k (by rw [List.length_set, lT]; exact hbd) bS (Tw.good_row hB.good (by omega)).2, r2, qS_set _ 0 a _ k (by rw [lT]; omega) bT (Tw.good_row hB.good (by omega)).2, rT a (by omega), qA k hk, ← h (d + 1) (by omega) (by omega) (by omega), Nat.zero_add, Nat.zero_add] at e2
        have bd := byA d k (by omega)
        have be := byA (d + 1) k (by omega)
        have u1 := byt_xor (byA a k (by omega)) (byB a k (by omega))
        have u2 := byt_xor (byA b k (by omega)) (byB b k (by omega))
        generalize hu : xorI (at_ (row A a) k) (at_ (row B a) k) = u at e1 e2 u1
        generalize hv : xorI (at_ (row A b) k) (at_ (row B b) k) = v at e1 e2 u2
        have f1 : xorI u v = 0 := by
          have := congrArg (xorI (at_ (row A d) k)) e1
          rwa [xorI_self, xorI_assoc, xorI_self_left _ (byt_xor u1 u2)] at this
        have f2 : xorI (mulI (expI a) u) (mulI (expI b) v) = 0 := by
          have := congrArg (xorI (at_ (row A (d + 1)) k)) e2
          rwa [xorI_self, xorI_assoc, xorI_self_left _ (byt_xor (byt_mul u1) (byt_mul u2))] at this
        have f3 := xorI_eq u1 u2 f1
        rw [← f3] at f2
        have f4 : mulI (xorI (expI a) (expI b)) u = 0 := by
          rw [mulI_comm (byt_xor (byt_exp a) (byt_exp b)) u1, mulI_xor (byt_exp a) (byt_exp b), mulI_comm u1 (byt_exp a), mulI_comm u1 (byt_exp b)]
          exact f2
        have f5 := mulI_eq_zero (byt_xor (byt_exp a) (byt_exp b)) u1 (Tw.xor_ne (by omega) (by omega) (by omega)) f4
        rw [← f3, f5] at hv
        rw [f5] at hu
        exact ⟨xorI_eq (byA a k (by omega)) (byB a k (by omega)) hu, xorI_eq (byA b k (by omega)) (byB b k (by omega)) hv⟩
      intro j hj
      by_cases ja : j = a
      · subst ja
        exact row_at_ext hA.good hB.good (by omega) (by omega) (fun k hk => (key k hk).1)
      · by_cases jb : j = b
        · subst jb
          exact row_at_ext hA.good hB.good (by omega) (by omega) (fun k hk => (key k hk).2)
        · exact h j (by omega) ja jb
    · -- one is data
      have hS : B.take d = (A.take d).set a (row B a) := by
        have := set_of (A := A.take d) (B := B.take d) (a := a) (by rw [lT, lU]) (fun j hj h1 => by rw [lT] at hj; rw [rT j hj, rU j hj]; exact h j (by omega) h1 (by omega))
        rwa [rU a (by omega)] at this
      have key : ∀ k, k < n → at_ (row A a) k = at_ (row B a) k := by
        intro k hk
        have u1 := byt_xor (byA a k (by omega)) (byB a k (by omega))
        by_cases hbe : b = d
        · have e2 := qB k hk
          rw [hS, qS_set _ 0 a _ k (by rw [lT]; omega) bT (Tw.good_row hB.good (by omega)).2, rT a (by omega), qA k hk, ← h (d + 1) (by omega) (by omega) (by omega), Nat.zero_add] at e2
          have f2 : mulI (expI a) (xorI (at_ (row A a) k) (at_ (row B a) k)) = 0 := by
            have := congrArg (xorI (at_ (row A (d + 1)) k)) e2
            rwa [xorI_self, xorI_self_left _ (byt_mul u1)] at this
          exact xorI_eq (byA a k (by omega)) (byB a k (by omega)) (mulI_eq_zero (byt_exp a) u1 (ex a) f2)
        · have e1 := pB k hk
          rw [hS, pS_set _ a _ k (by rw [lT]; omega), rT a (by omega), pA k hk, ← h d (by omega) (by omega) (by omega)] at e1
          have f1 : xorI (at_ (row A a) k) (at_ (row B a) k) = 0 := by
            have := congrArg (xorI (at_ (row A d) k)) e1
            rwa [xorI_self, xorI_self_left _ u1] at this
          exact xorI_eq (byA a k (by omega)) (byB a k (by omega)) f1
      intro j hj
      by_cases ja : j = a
      · subst ja
        exact row_at_ext hA.good hB.good (by omega) (by omega) key
      · exact h j (by omega) ja (by omega)
  have htk : A.take d = B.take d := row_ext (by rw [lT, lU]) (fun j hj => by rw [lT] at hj; rw [rT j hj, rU j hj]; exact hdata j hj)
  refine row_ext (by rw [lA, lB]) (fun j hj => ?_)
  by_cases h1 : j < d
  · exact hdata j h1
  · by_cases h2 : j = d
    · subst h2; rw [← hA.p, ← hB.p, htk]
    · obtain rfl : j = d + 1 := by omega
      rw [← hA.q, ← hB.q, htk]
end Go.Proofs.Ytodbmgafejclmaa.Cd
namespace Go.Proofs.Ytodbmgafejclmaa.Rp
open Go.RowKit Go.Proofs.YtodbmgafejclmaaW.PrintWords
open Go.Proofs.Ytodbmgafejclmaa.Fld Go.Proofs.Ytodbmgafejclmaa.Pl
set_option linter.unusedSimpArgs false
set_option linter.unusedVariables false
theorem even_l0 (L : List (List Int)) (hm : L.length ≤ 1000000) (h0 : 0 < L.length) : ∀ d i : Nat, L.length - i = d → i ≤ L.length → Ev (fun k => PRq.ramekinref5_even.l0 k L (i : Int)) ((L.drop i).all fun r => r.length == (row L 0).length)
  | 0, i, hd, hi => by
    obtain rfl : i = L.length := by omega
    refine Ev.step (f := fun _ => some true) (fun k => ?_) ?_
    · rw [PRq.ramekinref5_even.l0, if_neg (by omega)]
    · rw [List.drop_length]; exact Ev.now _
  | d + 1, i, hd, hi => by
    have hil : i < L.length := by omega
    have hdr : L.drop i = L[i] :: L.drop (i + 1) := List.drop_eq_getElem_cons hil
    have hr0 : PRq.rd_L1 L 0 = row L 0 := by unfold PRq.rd_L1 row; simp
    by_cases h : (L[i].length : Int) = ((row L 0).length : Int)
    · refine Ev.step (f := fun k => PRq.ramekinref5_even.l0 k L ((i + 1 : Nat) : Int)) (fun k => ?_) ?_
      · rw [PRq.ramekinref5_even.l0, if_pos (by omega), if_pos (by omega), if_pos (by omega), rdL_nat, row_lt hil, hr0, if_pos h, w64 (by omega) (by omega)]; rfl
      · have := even_l0 L hm h0 d (i + 1) (by omega) (by omega)
        rw [hdr, List.all_cons, show (L[i].length == (row L 0).length) = true from by rw [beq_iff_eq]; omega, Bool.true_and]
        exact this
    · refine Ev.step (f := fun _ => some false) (fun k => ?_) ?_
      · rw [PRq.ramekinref5_even.l0, if_pos (by omega), if_pos (by omega), if_pos (by omega), rdL_nat, row_lt hil, hr0, if_neg h]
      · rw [hdr, List.all_cons, show (L[i].length == (row L 0).length) = false from by rw [beq_eq_false_iff_ne]; omega, Bool.false_and]
        exact Ev.now _
theorem even_ok (L : List (List Int)) (n a b : Nat) (hn : ∀ r ∈ L, r.length = n) (h1 : 1 ≤ a) (ha : a ≤ L.length) (hb : L.length ≤ b) (hm : L.length ≤ 1000000) : PRr.ramekinref5_even.f L (a : Int) (b : Int) = some true := by
  refine Lim.lim_ev (fun k => PRq.ramekinref5_even.mono _ _ _ k) ?_
  refine Ev.congr (f := fun k => PRq.ramekinref5_even.j0 k L false) (fun k => ?_) (Ev.step (f := fun k => PRq.ramekinref5_even.l0 k L ((1 : Nat) : Int)) (fun k => ?_) ?_)
  · rw [PRq.ramekinref5_even.f, if_neg (by omega), decide_eq_false (by omega)]
  · rw [PRq.ramekinref5_even.j0, if_neg (by simp)]; rfl
  · have := even_l0 L hm (by omega) (L.length - 1) 1 (by omega) (by omega)
    have e : ((L.drop 1).all fun r => r.length == (row L 0).length) = true := by
      rw [List.all_eq_true]
      intro r hr
      rw [beq_iff_eq, hn r (List.mem_of_mem_drop hr), row_lt (by omega), hn _ (List.getElem_mem _)]
    rw [e] at this
    exact this
theorem rmul {x y : Int} (hx : Byt x) (hy : Byt y) : PRr.ramekinref2_Mul.f x y = some (mulI x y) := Lim.lim_ev (fun k => PRq.ramekinref2_Mul.mono _ _ k) (refmul_ev hx hy)
theorem rexp (n : Nat) (hn : n < 255) : PRr.ramekinref2_Exp.f (n : Int) = some (expI n) := Lim.lim_ev (fun k => PRq.ramekinref2_Exp.mono _ k) (refexp_ev n hn)
theorem par_l1 (L : List (List Int)) (i : Nat) (r : List Int) (b : Int) (p q : List Int) (hi : i < L.length) (hr : row L i = r) (hp : p.length = r.length) (hq : q.length = r.length) (hlen : r.length ≤ 281474976710656) (hb : Byt b) (bp : Bytes p) (bq : Bytes q) (br : Bytes r) (R : List Int × List Int)
    (h : Ev (fun k => PRr.ramekinref5_Parity.l0 k L (Pl.part p r none r.length) (Pl.part q r (some b) r.length) ((i : Int) + 1)) R) (hi2 : i < 1000000) :
    ∀ d j : Nat, r.length - j = d → j ≤ r.length → Ev (fun k => PRr.ramekinref5_Parity.l1 k L (Pl.part p r none j) (Pl.part q r (some b) j) (i : Int) b (j : Int)) R
  | 0, j, hd, hj => by
    obtain rfl : j = r.length := by omega
    have hr2 : PRr.rd_L1 L (i : Int) = r := by rw [← hr]; unfold PRr.rd_L1 row; simp
    refine Ev.step (f := fun k => PRr.ramekinref5_Parity.l0 k L (Pl.part p r none r.length) (Pl.part q r (some b) r.length) ((i : Int) + 1)) (fun k => ?_) h
    rw [PRr.ramekinref5_Parity.l1, if_pos (by omega), if_pos (by omega), hr2, if_neg (by omega), w64 (by omega) (by omega)]
  | d + 1, j, hd, hj => by
    have hjr : j < r.length := by omega
    have hr2 : PRr.rd_L1 L (i : Int) = r := by rw [← hr]; unfold PRr.rd_L1 row; simp
    refine Ev.step (f := fun k => PRr.ramekinref5_Parity.l1 k L (Pl.part p r none (j + 1)) (Pl.part q r (some b) (j + 1)) (i : Int) b ((j + 1 : Nat) : Int)) (fun k => ?_) (par_l1 L i r b p q hi hr hp hq hlen hb bp bq br R h hi2 d (j + 1) (by omega) (by omega))
    have e1 : at_ (Pl.part p r none j) j = at_ p j := by rw [part_at _ _ _ _ _ (by omega), if_neg (by omega)]
    have e2 : at_ (Pl.part q r (some b) j) j = at_ q j := by rw [part_at _ _ _ _ _ (by omega), if_neg (by omega)]
    have e3 := part_set p r none j (by omega)
    have e4 := part_set q r (some b) j (by omega)
    have t3 : term r none j = at_ r j := rfl
    have t4 : term r (some b) j = mulI b (at_ r j) := rfl
    rw [t3] at e3
    rw [t4] at e4
    rw [PRr.ramekinref5_Parity.l1, if_pos (by omega), if_pos (by omega), hr2, if_pos (by omega), if_pos (by omega), if_pos (by rw [part_len]; omega), if_pos (by rw [part_len]; omega), w64 (by omega) (by omega)]
    simp only [rd_nat, e1, e2, Int.toNat_natCast]
    rw [rmul hb (byt_at br j)]
    simp only [Option.bind_some]
    rw [xor_u8 (byt_at bp j) (byt_at br j), xor_u8 (byt_at bq j) (byt_mul (byt_at br j)), e3, e4]
    rfl
theorem par_l0 (L : List (List Int)) (n : Nat) (hn : ∀ r ∈ L, r.length = n) (hL : ∀ r ∈ L, Bytes r) (h254 : L.length ≤ 254) (hn2 : n ≤ 281474976710656) :
    ∀ d i, L.length - i = d → i ≤ L.length → Ev (fun k => PRr.ramekinref5_Parity.l0 k L (sumP (L.take i) n) (sumQ (L.take i) n) (i : Int)) (sumP L n, sumQ L n)
  | 0, i, hd, hi => by
    obtain rfl : i = L.length := by omega
    refine Ev.step (f := fun _ => some (sumP L n, sumQ L n)) (fun k => ?_) (Ev.now _)
    rw [PRr.ramekinref5_Parity.l0, if_neg (by omega), List.take_length]
  | d + 1, i, hd, hi => by
    have hiL : i < L.length := by omega
    have hm : L[i] ∈ L := List.getElem_mem hiL
    have htk : ∀ r ∈ L.take i, Bytes r := fun r hr => hL r (List.mem_of_mem_take hr)
    refine Ev.step (f := fun k => PRr.ramekinref5_Parity.l1 k L (sumP (L.take i) n) (sumQ (L.take i) n) (i : Int) (expI i) 0) (fun k => ?_) ?_
    · rw [PRr.ramekinref5_Parity.l0, if_pos (by omega), rexp i (by omega)]
      rfl
    · have h1 := par_l1 L i L[i] (expI i) (sumP (L.take i) n) (sumQ (L.take i) n) hiL (row_lt hiL) (by rw [sumP_len, hn _ hm]) (by rw [sumQ_len, hn _ hm]) (by rw [hn _ hm]; exact hn2) (byt_exp i) (bytes_sumP _ _ htk) (bytes_sumQ _ _ htk) (hL _ hm) (sumP L n, sumQ L n) ?_ (by omega) L[i].length 0 (by omega) (by omega)
      · simpa [part_zero] using h1
      · have := par_l0 L n hn hL h254 hn2 d (i + 1) (by omega) (by omega)
        have e1 : Pl.part (sumP (L.take i) n) L[i] none L[i].length = sumP (L.take (i + 1)) n := by
          refine ext_at (by rw [part_len, sumP_len, sumP_len]) (fun k hk => ?_)
          rw [part_len, sumP_len] at hk
          rw [part_at _ _ _ _ _ (by rw [sumP_len]; exact hk), if_pos (by rw [hn _ hm]; exact hk), sumP_at _ hk, sumP_at _ hk, List.take_succ_eq_append_getElem hiL, pS_snoc _ _ _ htk (hL _ hm)]
          rfl
        have e2 : Pl.part (sumQ (L.take i) n) L[i] (some (expI i)) L[i].length = sumQ (L.take (i + 1)) n := by
          refine ext_at (by rw [part_len, sumQ_len, sumQ_len]) (fun k hk => ?_)
          rw [part_len, sumQ_len] at hk
          rw [part_at _ _ _ _ _ (by rw [sumQ_len]; exact hk), if_pos (by rw [hn _ hm]; exact hk), sumQ_at _ hk, sumQ_at _ hk, List.take_succ_eq_append_getElem hiL, qS_snoc _ _ _ _ htk (hL _ hm)]
          have : (L.take i).length = i := by simp; omega
          rw [this, Nat.zero_add]
          rfl
        rw [e1, e2]
        simpa using this
theorem refpar_ev (L : List (List Int)) (n : Nat) (hn : ∀ r ∈ L, r.length = n) (hL : ∀ r ∈ L, Bytes r) (h2 : 2 ≤ L.length) (h14 : L.length ≤ 14) (hn2 : n ≤ 281474976710656) : Ev (fun k => PRr.ramekinref5_Parity.f k L) (sumP L n, sumQ L n) := by
  have hr0 : PRr.rd_L1 L 0 = row L 0 := by unfold PRr.rd_L1 row; simp
  have hl0 : (row L 0).length = n := by rw [row_lt (by omega)]; exact hn _ (List.getElem_mem _)
  refine Ev.congr (f := fun k => PRr.ramekinref5_Parity.l0 k L (sumP (L.take 0) n) (sumQ (L.take 0) n) ((0 : Nat) : Int)) (fun k => ?_) (par_l0 L n hn hL (by omega) hn2 L.length 0 (by omega) (by omega))
  have he := even_ok L n 2 14 hn (by omega) (by omega) (by omega) (by omega)
  rw [PRr.ramekinref5_Parity.f, show (2 : Int) = ((2 : Nat) : Int) from rfl, show (14 : Int) = ((14 : Nat) : Int) from rfl, he]
  simp only [Option.bind_some, ↓reduceIte]
  rw [if_pos (by omega), hr0, hl0, if_pos (by omega), if_pos (by simpa using hn2)]
  simp only [Int.toNat_natCast, List.take_zero]
  rw [← rep_zero, ← rep_zero']
  rfl
end Go.Proofs.Ytodbmgafejclmaa.Rp
namespace Go.Proofs.Ytodbmgafejclmaa.Rp
open Go.RowKit Go.Proofs.YtodbmgafejclmaaW.PrintWords
open Go.Proofs.Ytodbmgafejclmaa.Fld Go.Proofs.Ytodbmgafejclmaa.Pl Go.Proofs.Ytodbmgafejclmaa.Ot Go.Proofs.Ytodbmgafejclmaa.Tw Go.Proofs.Ytodbmgafejclmaa.Kp Go.Proofs.Ytodbmgafejclmaa.Fw Go.Proofs.Ytodbmgafejclmaa.Co Go.Proofs.Ytodbmgafejclmaa.Cw Go.Proofs.Ytodbmgafejclmaa.Cd
set_option linter.unusedSimpArgs false
set_option linter.unusedVariables false
/-- rows made again are bytes, of one length -/
theorem good_fix1 {L : List (List Int)} {lost : List Int} {s : Nat} (hL : Tw.GoodR s L) (hm : mayB L lost = true) (hk : lenR (kept L lost) = s) : Tw.GoodR s (fixR L lost) := by
  obtain ⟨m1, m2, m3, m4, m5, m6⟩ := may_facts hm
  have hkl := kept_len m6
  rw [hk] at hkl
  have hg : Tw.GoodR s (ownR L lost s) := own_good (fun r hr => (hL r hr).2) hkl
  have hol := own_len L lost s
  have b1 : Byt 1 := ⟨by omega, by omega⟩
  obtain ⟨d, hd⟩ : ∃ d, L.length = d + 2 := ⟨L.length - 2, by omega⟩
  have e : L.length - 2 = d := by omega
  unfold fixR
  simp only
  rw [hk, e]
  generalize ownR L lost s = R at hg hol
  have gT := good_take (m := d) hg
  have bT : ∀ x ∈ R.take d, Bytes x := fun x hx => (gT x hx).2
  have hp := Tw.good_add (n := s) (a := sumP (R.take d) s) ⟨sumP_len _ _, bytes_sumP _ _ bT⟩ (Tw.good_row hg (i := d) (by omega)).2 b1
  have hq := Tw.good_add (n := s) (a := sumQ (R.take d) s) ⟨sumQ_len _ _, bytes_sumQ _ _ bT⟩ (Tw.good_row hg (i := d + 1) (by omega)).2 b1
  generalize addR (sumP (R.take d) s) (row R d) 1 = p at hp
  generalize addR (sumQ (R.take d) s) (row R (d + 1)) 1 = q at hq
  have par : ∀ (gone : List Nat) (X : List (List Int)), Tw.GoodR s X → Tw.GoodR s (parR X gone d s) := by
    intro gone
    induction gone with
    | nil => intro X hX; exact hX
    | cons i t ih =>
      intro X hX
      show Tw.GoodR s (parR (if i ≥ d then X.set i _ else X) t d s)
      apply ih
      have gX := good_take (m := d) hX
      split
      · refine Tw.good_set hX ?_
        split
        · exact ⟨sumP_len _ _, bytes_sumP _ _ (fun x hx => (gX x hx).2)⟩
        · exact ⟨sumQ_len _ _, bytes_sumQ _ _ (fun x hx => (gX x hx).2)⟩
      · exact hX
  apply par
  rcases gone_of m3 m4 m5 with h | ⟨a, h, ha⟩ | ⟨a, b, h, hab, hb⟩
  · rw [h]; exact hg
  · rw [h]
    have hra := Tw.good_row hg (i := a) (by omega)
    simp only [List.map_cons, List.map_nil, Int.toNat_natCast, dataR]
    split
    · exact hg
    · exact Tw.good_set hg (Tw.good_add hra hp.2 b1)
  · rw [h]
    have hra := Tw.good_row hg (i := a) (by omega)
    simp only [List.map_cons, List.map_nil, Int.toNat_natCast, dataR]
    split
    · exact hg
    · split
      · exact good_two hg (by omega) (by omega) hp hq
      · split
        · exact Tw.good_set hg (Tw.good_add hra hq.2 (byt_inv (byt_exp a)))
        · exact Tw.good_set hg (Tw.good_add hra hp.2 b1)
end Go.Proofs.Ytodbmgafejclmaa.Rp
namespace Go.Proofs.Ytodbmgafejclmaa.Pc
open Go.RowKit Go.Proofs.YtodbmgafejclmaaW.PrintWords
open Go.Proofs.Ytodbmgafejclmaa.PRq Go.Proofs.Ytodbmgafejclmaa.Fld Go.Proofs.Ytodbmgafejclmaa.Pl
set_option linter.unusedSimpArgs false
set_option linter.unusedVariables false
/-- what Places answers -/
def Ok (lim m : Nat) (P : List Int) : Prop := P.length ≤ lim ∧ (∀ i ∈ P, 0 ≤ i ∧ i < (m : Int)) ∧ P.Nodup
end Go.Proofs.Ytodbmgafejclmaa.Pc
namespace Go.Proofs.Ytodbmgafejclmaa.Rf
open Go.RowKit Go.Proofs.YtodbmgafejclmaaW.PrintWords
open Go.Proofs.Ytodbmgafejclmaa.Fld Go.Proofs.Ytodbmgafejclmaa.Pl Go.Proofs.Ytodbmgafejclmaa.Ot Go.Proofs.Ytodbmgafejclmaa.Kp Go.Proofs.Ytodbmgafejclmaa.Fw Go.Proofs.Ytodbmgafejclmaa.Co Go.Proofs.Ytodbmgafejclmaa.Cw Go.Proofs.Ytodbmgafejclmaa.Cd Go.Proofs.Ytodbmgafejclmaa.Pc
set_option linter.unusedSimpArgs false
set_option linter.unusedVariables false
theorem code_of {L : List (List Int)} {n : Nat} (hL : Tw.GoodR n L) : Cd.Code (L ++ [sumP L n, sumQ L n]) n L.length := by
  have hb : ∀ x ∈ L, Bytes x := fun x hx => (hL x hx).2
  refine ⟨fun r hr => ?_, by simp, ?_, ?_⟩
  · rcases List.mem_append.1 hr with hr | hr
    · exact hL r hr
    · simp only [List.mem_cons, List.not_mem_nil, or_false] at hr
      rcases hr with rfl | rfl
      · exact ⟨sumP_len _ _, bytes_sumP _ _ hb⟩
      · exact ⟨sumQ_len _ _, bytes_sumQ _ _ hb⟩
  · rw [List.take_left]
    unfold row
    simp
  · rw [List.take_left]
    unfold row
    simp
theorem row_self {A : List (List Int)} {i : Nat} (hi : i < A.length) : A.set i (row A i) = A := by
  refine row_ext (by simp) (fun j hj => ?_)
  by_cases e : i = j
  · subst e; exact Tw.row_set_self hi _
  · exact Tw.row_set_ne e _
/-- one row made again -/
theorem fix_one {A : List (List Int)} {n d i : Nat} (hA : Cd.Code A n d) (hi : i < d + 2) (hk : lenR (kept A [(i : Int)]) = n) : fixR A [(i : Int)] = A := by
  have lA := hA.len
  have hR : ownR A [(i : Int)] n = A.set i (List.replicate n 0) := by
    refine row_ext (by rw [own_len, List.length_set]) (fun j hj => ?_)
    rw [own_len] at hj
    rw [ownR_row _ _ _ _ hj]
    by_cases e : i = j
    · subst e
      rw [Tw.row_set_self hj]
      simp
    · rw [Tw.row_set_ne e, if_neg (by simp; omega)]
  have e : A.length - 2 = d := by omega
  have ai := Tw.good_row hA.good (i := i) (by omega)
  unfold fixR
  simp only
  rw [hk, e, hR]
  simp only [srt, List.map_cons, List.map_nil, Int.toNat_natCast, dataR]
  by_cases hid : d ≤ i
  · rw [if_pos hid]
    have ht : (A.set i (List.replicate n 0)).take d = A.take d := take_set_ge hid _
    simp only [parR, List.foldl_cons, List.foldl_nil]
    rw [if_pos hid, ht, List.set_set]
    by_cases h2 : i = d
    · subst h2
      rw [if_pos rfl, hA.p]
      exact row_self (by omega)
    · obtain rfl : i = d + 1 := by omega
      rw [if_neg h2, hA.q]
      exact row_self (by omega)
  · rw [if_neg hid]
    simp only [parR, List.foldl_cons, List.foldl_nil]
    rw [if_neg hid, List.set_set, Tw.row_set_self (by omega), Tw.row_set_ne (by omega), take_set_lt]
    have gT := good_take (m := d) hA.good
    have bT : ∀ x ∈ A.take d, Bytes x := fun x hx => (gT x hx).2
    have lT : (A.take d).length = d := by rw [List.length_take]; omega
    have gd := Tw.good_row hA.good (i := d) (by omega)
    have key : addR (List.replicate n 0) (addR (sumP ((A.take d).set i (List.replicate n 0)) n) (row A d) 1) 1 = row A i := by
      refine ext_at (by rw [addR_len, List.length_replicate, ai.1]) (fun k hk => ?_)
      rw [addR_len, List.length_replicate] at hk
      have e1 : pS (A.take d) k = at_ (row A d) k := by rw [← hA.p, sumP_at _ hk]
      have b1 := byt_at gd.2 k
      have b2 := byt_at ai.2 k
      rw [addR_at _ _ _ _ (by rw [List.length_replicate]; exact hk) (by rw [addR_len, sumP_len]; exact hk), addR_at _ _ _ _ (by rw [sumP_len]; exact hk) (by rw [gd.1]; exact hk), sumP_at _ hk, pS_set _ i _ k (by rw [lT]; omega), row_take (by omega), at_zero, e1,
        mulI_one b1, xorI_zero b2, mulI_one (byt_xor (byt_xor b1 b2) b1), zero_xorI (byt_xor (byt_xor b1 b2) b1), xorI_comm, xorI_self_left _ b2]
    rw [key]
    exact row_self (by omega)
/-- with two rows lost the rows made again are right -/
theorem fix_right {L : List (List Int)} {lost : List Int} {s d : Nat} (hL : Tw.GoodR s L) (hm : mayB L lost = true) (hk : lenR (kept L lost) = s) (hd : L.length = d + 2) (h2 : lost.length = 2) :
    sumP ((fixR L lost).take d) s = row (fixR L lost) d ∧ sumQ ((fixR L lost).take d) s = row (fixR L lost) (d + 1) := by
  obtain ⟨m1, m2, m3, m4, m5, m6⟩ := may_facts hm
  have hkl := kept_len m6
  rw [hk] at hkl
  have hg : Tw.GoodR s (ownR L lost s) := own_good (fun r hr => (hL r hr).2) hkl
  have hol := own_len L lost s
  have e : L.length - 2 = d := by omega
  have hsl : (srt lost).length = lost.length := by
    unfold srt
    split
    · split <;> rfl
    · rfl
  have hmem : ∀ i : Nat, i < L.length → (i : Int) ∈ srt lost → row (ownR L lost s) i = List.replicate s 0 := fun i hi hin => by
    rw [srt_mem m3] at hin
    rw [ownR_row _ _ _ _ hi, if_pos (by simpa using hin)]
  rcases gone_of m3 m4 m5 with h | ⟨a, h, ha⟩ | ⟨a, b, h, hab, hb⟩
  · rw [h] at hsl; simp at hsl; omega
  · rw [h] at hsl; simp at hsl; omega
  · refine code_two (R := ownR L lost s) hg (by omega) hab (by omega) (by omega) (hmem a (by omega) (by rw [h]; simp)) (hmem b (by omega) (by rw [h]; simp)) ?_
    unfold fixR
    simp only
    rw [hk, e, h]
    rfl
theorem spare (P : List Int) (h : P.length ≤ 2) : ∃ i : Nat, i < 3 ∧ P.contains (i : Int) = false := by
  match P, h with
  | [], _ => exact ⟨0, by omega, rfl⟩
  | [a], _ =>
    by_cases h0 : a = 0
    · exact ⟨1, by omega, by simp; omega⟩
    · exact ⟨0, by omega, by simp; omega⟩
  | [a, b], _ =>
    by_cases h0 : a = 0 ∨ b = 0
    · by_cases h1 : a = 1 ∨ b = 1
      · exact ⟨2, by omega, by simp; omega⟩
      · exact ⟨1, by omega, by simp; omega⟩
    · exact ⟨0, by omega, by simp; omega⟩
/-- whatever stands in the places that are lost -/
theorem fix_code {A l : List (List Int)} {n d : Nat} {P : List Int} (hA : Cd.Code A n d) (h2 : 2 ≤ d) (h14 : d ≤ 14) (hl : l.length = d + 2) (hok : Ok 2 (d + 2) P) (h : ∀ j, j < d + 2 → P.contains (j : Int) = false → row l j = row A j) : mayB l P = true ∧ fixR l P = A := by
  have lA := hA.len
  obtain ⟨o1, o2, o3⟩ := hok
  have hk : kept l P = kept A P := by
    rw [kept_idx, kept_idx, hl, lA]
    apply List.map_congr_left
    intro i hi
    have h3 := idx_lt hi
    unfold idx at hi
    rw [List.mem_filter] at hi
    exact h i h3 (by simpa using hi.2)
  have hkr : ∀ r ∈ kept A P, r.length = n := by
    rw [kept_idx]
    intro r hr
    obtain ⟨j, hj, rfl⟩ := List.mem_map.1 hr
    exact (Tw.good_row hA.good (idx_lt hj)).1
  have hmA : ∀ X : List (List Int), X.length = d + 2 → kept X P = kept A P → mayB X P = true := fun X hX hkX => by
    rw [mayB_of (by omega) (by omega) o1 (fun j hj => by have := o2 _ (List.getElem_mem hj); rw [hX]; exact this) o3, hkX]
    exact alikeR_of hkr
  obtain ⟨i0, hi0, hc0⟩ := spare P o1
  have hls : lenR (kept A P) = n := lenR_of hkr (by
    intro h
    have : row A i0 ∈ kept A P := by
      rw [kept_idx]
      refine List.mem_map.2 ⟨i0, ?_, rfl⟩
      unfold idx
      rw [List.mem_filter]
      exact ⟨by simp; omega, by rw [hc0]; rfl⟩
    rw [h] at this
    cases this)
  have ho : ∀ m, ownR l P m = ownR A P m := fun m => by
    refine row_ext (by rw [own_len, own_len, hl, lA]) (fun i hi => ?_)
    rw [own_len, hl] at hi
    rw [ownR_row _ _ _ _ (by omega), ownR_row _ _ _ _ (by omega)]
    split
    · rfl
    · rename_i hc
      exact h i hi (Bool.eq_false_iff.2 hc)
  refine ⟨hmA l hl hk, ?_⟩
  have e : fixR l P = fixR A P := by
    unfold fixR
    simp only
    rw [hk, ho, hl, lA]
  rw [e]
  have hmm := hmA A lA rfl
  match P, o1, o2, o3, hls, hmm, h with
  | [], _, _, _, _, _, _ => exact fixR_nil A
  | [x], _, o2, _, hls, _, _ =>
    have hx := o2 x (by simp)
    obtain ⟨i, rfl⟩ := Int.eq_ofNat_of_zero_le hx.1
    exact fix_one hA (by omega) hls
  | [x, y], o1, o2, o3, hls, hmm, _ =>
    have hx := o2 x (by simp)
    have hy := o2 y (by simp)
    have hxy : x ≠ y := by simpa using o3
    have hr := fix_right hA.good hmm hls lA rfl
    have hG := Rp.good_fix1 hA.good hmm hls
    have hX : Cd.Code (fixR A [x, y]) n d := ⟨hG, by rw [fixR_len]; exact lA, hr.1, hr.2⟩
    have hag : ∀ j, j < d + 2 → j ≠ x.toNat → j ≠ y.toNat → row (fixR A [x, y]) j = row A j := fun j hj h1 h2 => fixR_row A [x, y] (by simp) j (by omega) (by simp; omega) (by simp; omega)
    rcases Nat.lt_or_gt_of_ne (show x.toNat ≠ y.toNat by omega) with hlt | hgt
    · exact (uniq hA hX (by omega) hlt (by omega) (fun j hj h1 h2 => (hag j hj h1 h2).symm)).symm
    · exact (uniq hA hX (by omega) hgt (by omega) (fun j hj h1 h2 => (hag j hj h2 h1).symm)).symm
end Go.Proofs.Ytodbmgafejclmaa.Rf
namespace Go.Proofs.Ytodbmgafejclmaa.Base
open Go.RowKit
set_option linter.unusedSimpArgs false
set_option linter.unusedVariables false
/-- all but one block stays -/
structure But (b : Nat) (w w' : World) : Prop where
  os : w'.os = w.os
  tape : w'.tape = w.tape
  output : w'.output = w.output
  size : w.heap.size ≤ w'.heap.size
  block : ∀ j, j < w.heap.size → j ≠ b → w'.heap[j]? = w.heap[j]?
theorem But.refl (b : Nat) (w : World) : But b w w := ⟨rfl, rfl, rfl, Nat.le_refl _, fun _ _ _ => rfl⟩
theorem But.trans {b : Nat} {w w1 w2 : World} (h : But b w w1) (k : But b w1 w2) : But b w w2 :=
  ⟨k.os.trans h.os, k.tape.trans h.tape, k.output.trans h.output, Nat.le_trans h.size k.size, fun j hj hn => (k.block j (Nat.lt_of_lt_of_le hj h.size) hn).trans (h.block j hj hn)⟩
theorem But.of_below {b : Nat} {w w' : World} (h : Below w.heap.size w w') : But b w w' := ⟨h.os, h.tape, h.output, h.size, fun j hj _ => h.block j hj⟩
theorem But.below {b base : Nat} {w0 w w' : World} (h : But b w w') (h0 : Below base w0 w) (hb : base ≤ b) (hw : base ≤ w.heap.size) : Below base w0 w' :=
  ⟨h.os.trans h0.os, h.tape.trans h0.tape, h.output.trans h0.output, Nat.le_trans h0.size h.size, fun j hj => (h.block j (Nat.lt_of_lt_of_le hj hw) (by omega)).trans (h0.block j hj)⟩
/-- a reader: what it has yet to read, with no error -/
def RdS (w : World) (base b : Nat) (bs : List Int) : Prop := base ≤ b ∧ ∃ A c, bs.length ≤ c ∧ w.heap[b]? = some (.cells #[.slice A bs.length c, .int .i64 0] 127 (0, 0)) ∧ Sl w base b 1 A (By bs)
theorem RdS.but {w w' : World} {base b g : Nat} {bs : List Int} (h : RdS w base b bs) (hk : But g w w') (hg : b < g) : RdS w' base b bs := by
  obtain ⟨h1, A, c, h2, h3, h4⟩ := h
  have hlt : b < w.heap.size := (Array.getElem?_eq_some_iff.1 h3).1
  exact ⟨h1, A, c, h2, (hk.block b hlt (by omega)).trans h3, fun hne => by
    obtain ⟨bb, o, e, hL, hB, hr⟩ := h4 hne
    exact ⟨bb, o, e, hL, hB, fun i hi => (rd_congr (hk.block bb (by omega) (by omega)) _ _).trans (hr i hi)⟩⟩
theorem RdS.lt {w : World} {base b : Nat} {bs : List Int} (h : RdS w base b bs) : b < w.heap.size := by
  obtain ⟨h1, A, c, h2, h3, h4⟩ := h
  exact (Array.getElem?_eq_some_iff.1 h3).1
/-- bytes as a number, the lowest one first -/
def leN : List Int → Nat
  | [] => 0
  | x :: xs => x.toNat + 256 * leN xs
def OkB (bs : List Int) : Prop := ∀ x ∈ bs, 0 ≤ x ∧ x < 256
theorem leN_lt : ∀ bs : List Int, OkB bs → leN bs < 256 ^ bs.length
  | [], _ => by simp [leN]
  | x :: xs, h => by
    have := leN_lt xs (fun y hy => h y (List.mem_cons_of_mem _ hy))
    have hx := h x List.mem_cons_self
    simp only [leN, List.length_cons, Nat.pow_succ]
    omega
theorem leN_snoc (xs : List Int) (y : Int) : leN (xs ++ [y]) = leN xs + y.toNat * 256 ^ xs.length := by
  induction xs with
  | nil => simp [leN]
  | cons x xs ih =>
    simp only [List.cons_append, leN, ih, List.length_cons, Nat.pow_succ]
    rw [Nat.mul_add, Nat.add_assoc, Nat.mul_left_comm, Nat.mul_comm (256 ^ xs.length) 256]
theorem wraps_u64 (n : Int) (h0 : 0 ≤ n) (h1 : n < 2 ^ 64) : IntKind.u64.wrap n = n := by
  simp [IntKind.wrap, IntKind.bits, IntKind.signed]
  omega
theorem pow_256 (i : Nat) : 256 ^ i = 2 ^ (8 * i) := by rw [Nat.pow_mul]
theorem or_step (v i : Nat) (y : Int) (hi : i < 8) (hv : v < 256 ^ i) (hy : 0 ≤ y ∧ y < 256) : bits .or .u64 (v : Int) (IntKind.u64.wrap (y * 2 ^ (8 * i))) = ((v + y.toNat * 256 ^ i : Nat) : Int) := by
  obtain ⟨m, rfl⟩ := Int.eq_ofNat_of_zero_le hy.1
  have hm : m < 256 := by omega
  have hp : 256 ^ (i + 1) ≤ 256 ^ 8 := Nat.pow_le_pow_right (by decide) (by omega)
  have h64 : (256 : Nat) ^ 8 = 2 ^ 64 := by decide
  have hmm : m * 256 ^ i < 2 ^ 64 := by
    have : m * 256 ^ i < 256 * 256 ^ i := Nat.mul_lt_mul_of_pos_right hm (Nat.pow_pos (by decide))
    rw [Nat.pow_succ, Nat.mul_comm] at hp
    omega
  have hvv : v < 2 ^ 64 := by
    have : 256 ^ i ≤ 256 ^ 8 := Nat.pow_le_pow_right (by decide) (by omega)
    omega
  have e : ((m : Int) * 2 ^ (8 * i)) = ((m * 256 ^ i : Nat) : Int) := by rw [pow_256]; simp
  rw [e, wraps_u64 _ (Int.natCast_nonneg _) (by exact_mod_cast hmm), (bits_nat .u64 64 (by decide) wraps_u64 v _ hvv hmm).2]
  rw [pow_256] at hv ⊢
  rw [Nat.or_comm, Nat.mul_comm m, ← Nat.two_pow_add_eq_or_of_lt hv m, Nat.add_comm]
  simp [Int.mul_comm]
set_option maxRecDepth 100000 in
theorem take_any (g bb o n len c : Nat) (w : World) (h : n ≤ len) (hlc : len ≤ c) (hl : len ≤ 1000000) (g0 : w.cell? ⟨g, 0, none⟩ = some (.slice (some ⟨bb, o, none⟩) len c)) (gf : w.frozen? ⟨g, 0, none⟩ = false) :
    Calls Try.prog 81 #[.pointer (some ⟨g, 0, none⟩), .int .i64 n] w fun x w' => x = .returned (.tuple #[.slice (some ⟨bb, o, none⟩) n c, .bool true]) ∧ ∃ A', (n < len → A' = some ⟨bb, o + n, none⟩) ∧ w' = w.setCell ⟨g, 0, none⟩ (.slice A' (len - n) (c - n)) := by
  have hI : ¬ ((len : Int) < (n : Int)) := by omega
  go_enter Try.func81, Try.ntmps81
  go_wp2_with fail
  · exact bodyPost_ret (results_tmp2 rfl _ _ _) rfl ⟨rfl, _, fun h' => by omega, rfl⟩
  · exact bodyPost_ret (results_tmp2 rfl _ _ _) rfl ⟨rfl, _, fun h' => rfl, rfl⟩
set_option maxRecDepth 100000 in
theorem number_any (base b n : Nat) (xs rest : List Int) (w : World) (hR : RdS w base b (xs ++ rest)) (hx : xs.length = n) (hn : 1 ≤ n) (hn8 : n ≤ 8) (hb : OkB xs) (hl : (xs ++ rest).length ≤ 1000000) :
    Calls Try.prog 74 #[.pointer (some ⟨b, 0, none⟩), .int .i64 n] w fun x w' => x = .returned (.int .u64 (leN xs)) ∧ RdS w' base b rest ∧ But b w w' := by
  obtain ⟨hbb, A, c, hc, hblk, hs⟩ := hR
  have hlt : b < w.heap.size := (Array.getElem?_eq_some_iff.1 hblk).1
  obtain ⟨bb, o, rfl, hbL, hbB, hr⟩ := hs (by intro h; have := congrArg List.length h; rw [By.len, List.length_append, hx] at this; simp at this; omega)
  obtain ⟨len, hlen⟩ : ∃ len, len = (xs ++ rest).length := ⟨_, rfl⟩
  have hnl : n ≤ len := by rw [hlen, List.length_append]; omega
  rw [← hlen] at hblk hc hl
  have c0 : w.cell? ⟨b, 0, none⟩ = some (.slice (some ⟨bb, o, none⟩) len c) := by simp [World.cell?, hblk]
  have c1 : w.cell? ⟨b, 1, none⟩ = some (.int .i64 0) := by simp [World.cell?, hblk]
  have f0 : w.frozen? ⟨b, 0, none⟩ = false := by simp [World.frozen?, hblk]
  go_enter Try.func74, Try.ntmps74
  replace hlen := hide hlen
  replace hblk := hide hblk
  go_wp2_with fail
  obtain ⟨g, hg⟩ : ∃ g, g = w.heap.size := ⟨_, rfl⟩
  rw [← hg]
  obtain ⟨w1, hw1⟩ : ∃ w1, w1 = w.alloc (.cells #[.slice (some ⟨bb, o, none⟩) len c] 140) := ⟨_, rfl⟩
  rw [← hw1]
  have g0 : w1.cell? ⟨g, 0, none⟩ = some (.slice (some ⟨bb, o, none⟩) len c) := by
    have : w1.heap[g]? = some (.cells #[.slice (some ⟨bb, o, none⟩) len c] 140 (0, 0)) := by rw [hw1, hg]; exact heap_alloc_new _ _
    simp [World.cell?, this]
  have gf : w1.frozen? ⟨g, 0, none⟩ = false := by
    have : w1.heap[g]? = some (.cells #[.slice (some ⟨bb, o, none⟩) len c] 140 (0, 0)) := by rw [hw1, hg]; exact heap_alloc_new _ _
    simp [World.frozen?, this]
  have z1 : w1.heap.size = g + 1 := by rw [hw1, hg]; simp
  have k1 : ∀ j, j < g → w1.heap[j]? = w.heap[j]? := fun j hj => by rw [hw1]; exact Below.heap_alloc _ _ _ (by omega)
  refine (take_any g bb o n len c w1 hnl hc hl g0 gf).mono ?_
  rintro e w2 ⟨rfl, A', hA', hw2⟩
  obtain ⟨w3, hw3⟩ : ∃ w3, w3 = w2.setCell ⟨b, 0, none⟩ (.slice A' (len - n) (c - n)) := ⟨_, rfl⟩
  have hbg : b < g := by omega
  have z3 : w3.heap.size = g + 1 := by rw [hw3, hw2, World.size_setCell, World.size_setCell]; exact z1
  have k3 : ∀ j, j < g → j ≠ b → w3.heap[j]? = w.heap[j]? := fun j hj hn => by
    rw [hw3, hw2]
    exact (Below.heap_setCell _ _ _ _ (by show j ≠ b; exact hn)).trans ((Below.heap_setCell _ _ _ _ (by show j ≠ g; omega)).trans (k1 j hj))
  have b2 : w2.heap[b]? = some (.cells #[.slice (some ⟨bb, o, none⟩) len c, .int .i64 0] 127 (0, 0)) := by
    rw [hw2]
    exact (Below.heap_setCell _ _ _ _ (by show b ≠ g; omega)).trans ((k1 b hbg).trans (unhide hblk))
  have b3 : w3.heap[b]? = some (.cells #[.slice A' (len - n) (c - n), .int .i64 0] 127 (0, 0)) := by
    rw [hw3]
    exact heap_setCell_same _ _ _ _ _ _ b2
  have hBut : But b w w3 := ⟨by rw [hw3, hw2, hw1]; rfl, by rw [hw3, hw2, hw1]; rfl, by rw [hw3, hw2, hw1]; rfl, by omega, fun j hj hn => k3 j (by omega) hn⟩
  have hg0 : w2.cell? ⟨g, 0, none⟩ = some (.slice A' (len - n) (c - n)) := by rw [hw2]; go_simp
  have hbc : w2.cell? ⟨b, 0, none⟩ = some (.slice (some ⟨bb, o, none⟩) len c) := by simp [World.cell?, b2]
  have hbf : w2.frozen? ⟨b, 0, none⟩ = false := by simp [World.frozen?, b2]
  have hR3 : RdS w3 base b rest := by
    refine ⟨hbb, A', c - n, ?_, ?_, fun hne => ?_⟩
    · have := unhide hlen
      rw [List.length_append] at this
      omega
    · have := unhide hlen
      rw [List.length_append] at this
      rw [b3, show len - n = rest.length from by omega]
    · have hrl : 0 < rest.length := by
        rcases Nat.eq_zero_or_pos rest.length with h | h
        · exact absurd (by simp [By, List.length_eq_zero_iff.1 h]) hne
        · exact h
      have hll := unhide hlen
      rw [List.length_append] at hll
      refine ⟨bb, o + n, hA' (by omega), hbL, hbB, fun i hi => ?_⟩
      have hi' : i < rest.length := by simpa [By] using hi
      have := hr (n + i) (by simp [By]; omega)
      rw [rd_congr (k3 bb (by omega) (by omega)), show o + n + i * 1 = o + (n + i) * 1 from by omega, this]
      simp [By, List.getElem_append_right, hx]
  have hcx : ∀ (j : Nat) (hj : j < n), w3.cell? ⟨bb, o + j, none⟩ = some (.int .u8 (xs[j]'(by omega))) := fun j hj => by
    have h1 := hr j (by simp [By]; omega)
    have h2 := rd_cell ((rd_congr (k3 bb (by omega) (by omega)) _ _).trans h1) 0 (by omega)
    rw [Nat.mul_one, Nat.add_zero] at h2
    rw [h2]
    simp [By, List.getElem_append_left, hj, hx]
  clear hw1 g0 gf k1 k3 hr hs b3 hlt
  replace hw2 := hide hw2
  replace hw3 := hide hw3
  replace hg := hide hg
  replace z1 := hide z1
  replace z3 := hide z3
  replace b2 := hide b2
  go_wp2_with fail
  rw [← unhide hw3]
  clear hg0 hbc hbf c0 c1 f0
  go_loopw [9, 41] (fun s9 s41 wr => ∃ i : Nat, i ≤ n ∧ s41 = .int .i64 i ∧ s9 = .int .u64 (leN (xs.take i)) ∧ wr = w3) (fun _ s41 _ => n - (intOf s41).toNat)
  case atStart => exact ⟨0, by omega, rfl, by simp [leN], rfl⟩
  case round =>
    obtain ⟨i, hi, rfl, rfl, rfl⟩ := hrel
    by_cases hin : i < n
    · have hc0 := hcx i hin
      have hinI : (i : Int) < n := by omega
      have hi8 : 0 ≤ (i : Int) ∧ (i : Int) < 8 := by omega
      clear hcx
      obtain ⟨y, hy⟩ : ∃ y, y = xs[i]'(by omega) := ⟨_, rfl⟩
      rw [← hy] at hc0
      have hyb : 0 ≤ y ∧ y < 256 := by rw [hy]; exact hb _ (List.getElem_mem _)
      have hst := or_step (leN (xs.take i)) i y (by omega) (by have := leN_lt (xs.take i) (fun z hz => hb z (List.mem_of_mem_take hz)); rwa [List.length_take, Nat.min_eq_left (by omega)] at this) hyb
      have htk : leN (xs.take (i + 1)) = leN (xs.take i) + y.toNat * 256 ^ i := by
        rw [List.take_succ_eq_append_getElem (by omega), leN_snoc, List.length_take, Nat.min_eq_left (by omega), ← hy]
      rw [← htk] at hst
      replace hy := hide hy
      replace hst := hide hst
      clear htk
      go_wp2_with fail
      go_roundw
      case rel => exact ⟨i + 1, by omega, by go_num, by rw [unhide hst], trivial⟩
      case measure => simp [intOf]; omega
    · obtain rfl : n = i := by omega
      rw [show xs.take n = xs from by rw [← hx, List.take_length]]
      go_wp2_with fail
      go_ret
      exact ⟨rfl, hR3, hBut⟩
set_option maxRecDepth 100000 in
theorem rint8_any (base b : Nat) (xs rest : List Int) (w : World) (hR : RdS w base b (xs ++ rest)) (hx : xs.length = 8) (hb : OkB xs) (hl : (xs ++ rest).length ≤ 1000000) :
    Calls Try.prog 62 #[.pointer (some ⟨b, 0, none⟩)] w fun x w' => x = .returned (.int .i64 (wrap64 (leN xs))) ∧ RdS w' base b rest ∧ But b w w' := by
  have h : Calls Try.prog 74 #[.pointer (some ⟨b, 0, none⟩), .int .i64 8] w _ := number_any base b 8 xs rest w hR hx (by omega) (by omega) hb hl
  go_enter Try.func62, Try.ntmps62
  go_wp2_with fail
  (with_reducible refine h.mono ?_)
  rintro e w1 ⟨rfl, hR1, hB1⟩
  go_wp2_with fail
  go_ret
  exact ⟨rfl, hR1, hB1⟩
set_option maxRecDepth 100000 in
theorem rbyte1_any (base b : Nat) (y : Int) (rest : List Int) (w : World) (hR : RdS w base b (y :: rest)) (hb : 0 ≤ y ∧ y < 256) (hl : (y :: rest).length ≤ 1000000) :
    Calls Try.prog 63 #[.pointer (some ⟨b, 0, none⟩)] w fun x w' => x = .returned (.int .i64 y) ∧ RdS w' base b rest ∧ But b w w' := by
  have h : Calls Try.prog 74 #[.pointer (some ⟨b, 0, none⟩), .int .i64 1] w _ := number_any base b 1 [y] rest w hR rfl (by omega) (by omega) (fun z hz => by rw [List.mem_singleton.1 hz]; exact hb) hl
  have e : (leN [y] : Int) = y := by simp [leN]; omega
  rw [e] at h
  clear e
  go_enter Try.func63, Try.ntmps63
  go_wp2_with fail
  (with_reducible refine h.mono ?_)
  rintro e w1 ⟨rfl, hR1, hB1⟩
  go_wp2_with fail
  go_ret
  exact ⟨rfl, hR1, hB1⟩
set_option maxRecDepth 100000 in
theorem rend_any (base b : Nat) (w : World) (hR : RdS w base b []) :
    Calls Try.prog 64 #[.pointer (some ⟨b, 0, none⟩)] w fun x w' => x = .returned (.int .i64 0) ∧ w = w' := by
  obtain ⟨hbb, A, c, hc, hblk, hs⟩ := hR
  have c0 : w.cell? ⟨b, 0, none⟩ = some (.slice A 0 c) := by simp [World.cell?, hblk]
  have c1 : w.cell? ⟨b, 1, none⟩ = some (.int .i64 0) := by simp [World.cell?, hblk]
  clear hblk hs
  go_enter Try.func64, Try.ntmps64
  go_wp2_with fail
  go_ret
  exact ⟨rfl, rfl⟩
set_option maxRecDepth 100000 in
theorem new_any (A : Option Addr) (c : Nat) (bs : List Int) (w : World) (hl : bs.length ≤ 1000000) (hs : Sl w 0 w.heap.size 1 A (By bs)) :
    Calls Try.prog 61 #[.slice A bs.length c] w fun x w' => ∃ b, x = .returned (.pointer (some ⟨b, 0, none⟩)) ∧ RdS w' w.heap.size b bs ∧ Below w.heap.size w w' := by
  obtain ⟨A1, c1, w1, hrun1, ho1, hg1, hc1⟩ := run_append_by w w.heap.size 0 (.slice none 0 0) [] bs (Ow.nil w _ _ _) rfl 0 w.heap.size A bs.length c hs rfl (by omega) (Nat.le_refl _) 24
  rw [Nat.zero_add, List.nil_append] at ho1
  rw [Nat.zero_add] at hrun1 hc1
  have b1 : Below w.heap.size w w1 := below_grown (Below.refl _ _) hg1 (Nat.le_refl _) (fun k e => by simp [Value.ownBlock] at e)
  have hs1 := ho1.sl (By.sized _) (by omega)
  have z1 := b1.size
  have hR : RdS (w1.alloc (.cells #[.slice A1 bs.length c1, .int .i64 0] 127)) w.heap.size w1.heap.size bs :=
    ⟨z1, A1, c1, hc1, heap_alloc_new _ _, hs1.alloc (Nat.le_refl _) _⟩
  have hB : Below w.heap.size w (w1.alloc (.cells #[.slice A1 bs.length c1, .int .i64 0] 127)) := b1.alloc z1 _
  clear hs1 ho1 hg1 b1
  go_enter Try.func61, Try.ntmps61
  go_wp2_with (at_builtin; refine wpList_step (fun K hK => step_append_ex (o := ⟨some 4, _, _, _, _, _⟩) (.const (.slice none 0 0)) (.tmp 3) 24 rfl (by rfl) ⟨_, _, hrun1, hK _ _ ?_⟩))
  go_ret
  exact ⟨_, rfl, hR, hB⟩
end Go.Proofs.Ytodbmgafejclmaa.Base
namespace Go.Proofs.Ytodbmgafejclmaa.Base
open Go.RowKit Go.Maps Go.Proofs.YtodbmgafejclmaaW.PrintWords Go.Proofs.YtodbmgafejclmaaW.PrintLast
open Go.Proofs.Ytodbmgafejclmaa.Fld Go.Proofs.Ytodbmgafejclmaa.Pl Go.Proofs.Ytodbmgafejclmaa.Kp Go.Proofs.Ytodbmgafejclmaa.Fw Go.Proofs.Ytodbmgafejclmaa.Co Go.Proofs.Ytodbmgafejclmaa.Cw Go.Proofs.Ytodbmgafejclmaa.Cd Go.Proofs.Ytodbmgafejclmaa.Rf
set_option linter.unusedSimpArgs false
set_option linter.unusedVariables false
/-- bytes that the print's words tell, as a slice -/
theorem by_of_C {w : World} {A : Option Addr} {n : Nat} {bs : List Int} (h : Kd.C (Kd.int .u8) w A n bs) : Sl w 0 w.heap.size 1 A (By bs) := fun hne => by
  have hn : 0 < n := by
    have h1 := h.1
    rcases Nat.eq_zero_or_pos n with h0 | h0
    · exact absurd (by simp [By, List.length_eq_zero_iff.1 (h1.trans h0)]) hne
    · exact h0
  obtain ⟨ad, rfl, hc⟩ := h.2.2 hn
  have hcell : ∀ (j : Nat) (hj : j < bs.length), w.cell? (ad.add j) = some (.int .u8 bs[j]) := fun j hj => by
    obtain ⟨c, hl, hk, hcc⟩ := hc j _ (List.getElem?_eq_getElem hj)
    have hc1 : c = [Value.int .u8 bs[j]] := hk
    have := hcc 0 (.int .u8 bs[j]) (by rw [hc1]; rfl)
    rw [show (Kd.int IntKind.u8).sz = 1 from rfl, Nat.mul_one, Nat.add_zero] at this
    exact this
  have hl : bs.length = n := h.1
  have h0 := hcell 0 (by omega)
  have hsp : ad.spot = none := by
    have h00 : ad.add 0 = ad := by simp [Addr.add]
    rw [h00] at h0
    cases hs : ad.spot with
    | none => rfl
    | some s =>
      exfalso
      unfold World.cell? at h0
      rw [hs] at h0
      split at h0 <;> simp at h0
  obtain ⟨b, o, sp⟩ := ad
  simp only at hsp
  subst hsp
  refine ⟨b, o, rfl, Nat.zero_le _, ?_, fun i hi => ?_⟩
  · rw [addr_nxt] at h0
    exact World.block_lt_of_cell? w _ h0
  · have hi' : i < bs.length := by simpa [By] using hi
    have := hcell i hi'
    rw [addr_nxt] at this
    rw [Nat.mul_one]
    simpa [By] using rd_one this
theorem C_of_in {w : World} {L B : Nat} {A : Option Addr} {bs : List Int} (hm : bs.length ≤ 9223372036854775807) (h : Sl w L B 1 A (In bs)) : Kd.C (Kd.int .i64) w A bs.length bs := by
  refine ⟨rfl, hm, fun hp => ?_⟩
  obtain ⟨b, o, rfl, _, _, hr⟩ := h.pos (by rw [In.len]; exact hp)
  refine ⟨_, rfl, fun j p hj => ?_⟩
  have hjl : j < bs.length := (List.getElem?_eq_some_iff.1 hj).1
  have hpj : bs[j] = p := (List.getElem?_eq_some_iff.1 hj).2
  have h1 := hr j (by rw [In.len]; exact hjl)
  have h2 := rd_cell h1 0 (by omega)
  simp only [In, List.getElem_map, hpj] at h2
  refine ⟨[Value.int .i64 p], rfl, rfl, fun q u hu => ?_⟩
  have hq : q = 0 := by
    have := (List.getElem?_eq_some_iff.1 hu).1
    simp at this
    omega
  subst hq
  simp only [List.getElem?_cons_zero, Option.some.injEq] at hu
  subst hu
  rw [show (⟨b, o, none⟩ : Addr).add (j * (Kd.int IntKind.i64).sz + 0) = ⟨b, o + j * 1 + 0, none⟩ from by rw [show (Kd.int IntKind.i64).sz = 1 from rfl, addr_nxt, Nat.add_assoc]]
  exact h2
abbrev RC (w : World) (A : Option Addr) (n : Nat) (L : List (List Int)) : Prop := Kd.C (Kd.slice 5 (Kd.int .u8)) w A n L
theorem RC.take {w : World} {A : Option Addr} {n m : Nat} {L : List (List Int)} (h : RC w A n L) (hm : m ≤ n) : RC w A m (L.take m) := by
  obtain ⟨h1, h2, h3⟩ := h
  refine ⟨by rw [List.length_take]; omega, by omega, fun hp => ?_⟩
  obtain ⟨ad, e, hc⟩ := h3 (by omega)
  refine ⟨ad, e, fun j p hj => ?_⟩
  have hjm : j < (L.take m).length := (List.getElem?_eq_some_iff.1 hj).1
  rw [List.length_take] at hjm
  rw [List.getElem?_take, if_pos (by omega)] at hj
  exact hc j p hj
/-- an element of a row of bytes -/
theorem RC.at_ {w : World} {A : Option Addr} {n : Nat} {L : List (List Int)} (h : RC w A n L) (i : Nat) (hi : i < n) : ∃ ad A0 c0, A = some ad ∧ w.cell? (ad.add i) = some (.slice A0 (row L i).length c0) ∧ (row L i).length ≤ c0 ∧ Sl w 0 w.heap.size 1 A0 (By (row L i)) := by
  obtain ⟨ad, c, e, _, hK, hc0⟩ := Kd.C_get h ([] : List Int) (i : Int) (by omega) (by omega)
  have hc : ∀ j u, c[j]? = some u → w.cell? (ad.add (i * 1 + j)) = some u := by
    intro j u hu
    have := hc0 j u hu
    rw [Int.toNat_natCast] at this
    exact this
  have hr : L.getD (i : Int).toNat ([] : List Int) = row L i := by rw [Int.toNat_natCast]; rfl
  rw [hr] at hK
  obtain ⟨A0, c0, rfl, l0, g0⟩ := hK
  exact ⟨ad, A0, c0, e, by have hq := hc 0 _ rfl; rwa [Nat.mul_one, Nat.add_zero] at hq, l0, by_of_C g0⟩
def lostG : Nat → List Pg → List Int
  | _, [] => []
  | i, p :: ps => if p.1 = 2 then lostG (i + 1) ps else (i : Int) :: lostG (i + 1) ps
theorem lostG_snoc : ∀ (ps : List Pg) (i : Nat) (p : Pg), lostG i (ps ++ [p]) = lostG i ps ++ (if p.1 = 2 then [] else [((i + ps.length : Nat) : Int)])
  | [], i, p => by simp [lostG]
  | q :: ps, i, p => by
    have ih := lostG_snoc ps (i + 1) p
    simp only [List.cons_append, lostG, ih, List.length_cons, show i + 1 + ps.length = i + (ps.length + 1) from by omega]
    split <;> simp
theorem lostG_len : ∀ (ps : List Pg) (i : Nat), (lostG i ps).length + (ps.map (·.1)).count 2 = ps.length
  | [], _ => by simp [lostG]
  | p :: ps, i => by
    have ih := lostG_len ps (i + 1)
    simp only [lostG, List.map_cons, List.length_cons]
    by_cases h : p.1 = 2
    · rw [if_pos h, h, List.count_cons_self]; omega
    · rw [if_neg h, List.count_cons_of_ne h, List.length_cons]; omega
theorem lostG_mem : ∀ (ps : List Pg) (i : Nat) (x : Int), x ∈ lostG i ps ↔ ∃ j, ∃ h : j < ps.length, x = ((i + j : Nat) : Int) ∧ ps[j].1 ≠ 2
  | [], i, x => by simp [lostG]
  | p :: ps, i, x => by
    have ih := lostG_mem ps (i + 1) x
    have key : (∃ j, ∃ h : j < (p :: ps).length, x = ((i + j : Nat) : Int) ∧ (p :: ps)[j].1 ≠ 2) ↔ (x = (i : Int) ∧ p.1 ≠ 2) ∨ ∃ j, ∃ h : j < ps.length, x = ((i + 1 + j : Nat) : Int) ∧ ps[j].1 ≠ 2 := by
      constructor
      · rintro ⟨j, hj, hx, h2⟩
        cases j with
        | zero => exact .inl ⟨hx, h2⟩
        | succ j => exact .inr ⟨j, by simpa using hj, by rw [hx]; congr 1; omega, h2⟩
      · rintro (⟨hx, h2⟩ | ⟨j, hj, hx, h2⟩)
        · exact ⟨0, by simp, hx, h2⟩
        · exact ⟨j + 1, by simpa using hj, by rw [hx]; congr 1; omega, h2⟩
    rw [key, ← ih, lostG]
    by_cases h : p.1 = 2
    · rw [if_pos h]
      exact ⟨.inr, fun h' => h'.resolve_left (fun h2 => h2.2 h)⟩
    · rw [if_neg h, List.mem_cons]
      exact ⟨fun h' => h'.imp (fun e => ⟨e, h⟩) id, fun h' => h'.imp (fun e => e.1) id⟩
theorem lostG_nodup : ∀ (ps : List Pg) (i : Nat), (lostG i ps).Nodup
  | [], _ => List.nodup_nil
  | p :: ps, i => by
    have ih := lostG_nodup ps (i + 1)
    rw [lostG]
    split
    · exact ih
    · refine List.nodup_cons.2 ⟨fun h => ?_, ih⟩
      obtain ⟨j, _, e, _⟩ := (lostG_mem ps (i + 1) _).1 h
      omega
/-- pages' bytes -/
def pgB (ps : List Pg) : List (List Int) := ps.map (·.2.2.2)
def fine48 (ps : List Pg) : Prop := ∀ p ∈ ps, p.1 = 2 → p.2.2.2.length = 48
/-- rows of which the last two are right -/
def rightR (X : List (List Int)) : Bool := decide (sumP (X.take (X.length - 2)) 48 = row X (X.length - 2)) && decide (sumQ (X.take (X.length - 2)) 48 = row X (X.length - 2 + 1))
theorem fix_own {l : List (List Int)} {P : List Int} {n : Nat} (hk : ∀ i, i < l.length → P.contains (i : Int) = false → (row l i).length = n) (h2 : P.length ≤ 2) (hl : 4 ≤ l.length) (hin : ∀ x ∈ P, 0 ≤ x) :
    lenR (kept (ownR l P n) P) = n ∧ (∀ r ∈ kept (ownR l P n) P, r.length = n) ∧ kept (ownR l P n) P = kept l P ∧ fixR l P = fixR (ownR l P n) P := by
  have lo := own_len l P n
  have hro : ∀ i, i < l.length → P.contains (i : Int) = false → row (ownR l P n) i = row l i := fun i hi hc => by
    rw [ownR_row _ _ _ _ hi, if_neg (by rw [hc]; simp)]
  have hkk : kept (ownR l P n) P = kept l P := by
    rw [kept_idx, kept_idx, lo]
    apply List.map_congr_left
    intro i hi
    have h3 := idx_lt hi
    unfold idx at hi
    rw [List.mem_filter] at hi
    exact hro i h3 (by simpa using hi.2)
  have hkr : ∀ r ∈ kept (ownR l P n) P, r.length = n := by
    rw [hkk, kept_idx]
    intro r hr
    obtain ⟨j, hj, rfl⟩ := List.mem_map.1 hr
    have h3 := idx_lt hj
    unfold idx at hj
    rw [List.mem_filter] at hj
    exact hk j h3 (by simpa using hj.2)
  obtain ⟨i0, hi0, hc0⟩ := spare P h2
  have hls : lenR (kept (ownR l P n) P) = n := lenR_of hkr (by
    intro h
    have : row (ownR l P n) i0 ∈ kept (ownR l P n) P := by
      rw [kept_idx]
      refine List.mem_map.2 ⟨i0, ?_, rfl⟩
      unfold idx
      rw [List.mem_filter]
      exact ⟨by simp; omega, by rw [hc0]; rfl⟩
    rw [h] at this
    cases this)
  have hoo : ∀ m, ownR (ownR l P n) P m = ownR l P m := fun m => by
    refine row_ext (by simp only [own_len]) (fun i hi => ?_)
    rw [own_len, lo] at hi
    rw [ownR_row (ownR l P n) P m i (by omega), ownR_row l P m i hi]
    by_cases hc : P.contains (i : Int) = true
    · rw [if_pos hc, if_pos hc]
    · rw [if_neg hc, if_neg hc]
      exact hro i hi (Bool.eq_false_iff.2 hc)
  refine ⟨hls, hkr, hkk, ?_⟩
  unfold fixR
  simp only
  rw [hkk, hoo, lo]
theorem pages_fix {ps : List Pg} (hl : 4 ≤ ps.length) (h16 : ps.length ≤ 16) (hlost : (lostG 0 ps).length ≤ 2) (hf : fine48 ps) (hb : ∀ p ∈ ps, OkB p.2.2.2) :
    mayB (pgB ps) (lostG 0 ps) = true ∧ Tw.GoodR 48 (fixR (pgB ps) (lostG 0 ps)) ∧ (fixR (pgB ps) (lostG 0 ps)).length = ps.length := by
  have lb : (pgB ps).length = ps.length := by simp [pgB]
  have hrow : ∀ i (h : i < ps.length), row (pgB ps) i = ps[i].2.2.2 := fun i h => by rw [row_lt (by omega)]; simp [pgB]
  have hcon : ∀ i (h : i < ps.length), (lostG 0 ps).contains (i : Int) = false → ps[i].1 = 2 := fun i h hc => by
    by_cases h2 : ps[i].1 = 2
    · exact h2
    · have : (i : Int) ∈ lostG 0 ps := (lostG_mem ps 0 _).2 ⟨i, h, by simp, h2⟩
      rw [← List.contains_iff_mem] at this
      rw [this] at hc; cases hc
  have hk : ∀ i, i < (pgB ps).length → (lostG 0 ps).contains (i : Int) = false → (row (pgB ps) i).length = 48 := fun i hi hc => by
    rw [lb] at hi
    rw [hrow i hi]
    exact hf _ (List.getElem_mem hi) (hcon i hi hc)
  have hin : ∀ x ∈ lostG 0 ps, 0 ≤ x ∧ x < (pgB ps).length := fun x hx => by
    obtain ⟨j, hj, e, _⟩ := (lostG_mem ps 0 x).1 hx
    omega
  obtain ⟨e1, e2, e3, e4⟩ := fix_own hk hlost (by omega) (fun x hx => (hin x hx).1)
  have lo := own_len (pgB ps) (lostG 0 ps) 48
  have hB : ∀ r ∈ pgB ps, Bytes r := fun r hr => by
    obtain ⟨p, hp, rfl⟩ := List.mem_map.1 hr
    exact hb p hp
  have hg : Tw.GoodR 48 (ownR (pgB ps) (lostG 0 ps) 48) := own_good hB hk
  have hm : ∀ X : List (List Int), X.length = ps.length → kept X (lostG 0 ps) = kept (pgB ps) (lostG 0 ps) → mayB X (lostG 0 ps) = true := fun X hX hkX => by
    rw [mayB_of (by omega) (by omega) hlost (fun j hj => by have := hin _ (List.getElem_mem hj); rw [hX, ← lb]; exact this) (lostG_nodup ps 0), hkX, ← e3]
    exact alikeR_of e2
  refine ⟨hm _ lb rfl, ?_, by rw [fixR_len, lb]⟩
  rw [e4]
  exact Rp.good_fix1 hg (hm _ (by rw [lo, lb]) e3) e1
end Go.Proofs.Ytodbmgafejclmaa.Base
