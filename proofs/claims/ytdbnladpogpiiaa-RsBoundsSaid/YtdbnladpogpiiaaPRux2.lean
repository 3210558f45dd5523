/-
  Functions of the program as plain Lean functions, each with a proof that its call does what that function says. Written by a program of mine (pr.py), which calls a scratch copy of the kit's print.
-/
import Derived.Test.YtdbnladpogpiiaaPRux0
import Derived.Test.YtdbnladpogpiiaaPRux1
namespace Go.Proofs.Ytdbnladpogpiiaa.PRu
open Go.RowKit Go.Proofs.YtdbnladpogpiiaaW.PrintWords Go.Proofs.YtdbnladpogpiiaaW.PrintLast Go.Proofs.YtdbnladpogpiiaaW.PrintMore
attribute [local go_sem] max2_int min2_int max_two min_two max_three min_three max_four min_four   -- for this text's walks alone
set_option linter.unusedVariables false
set_option linter.unusedSimpArgs false

/-! ### ramekinlaw5_RsBounds: function 10 -/
mutual
noncomputable def ramekinlaw5_RsBounds.j0 : Nat → Int → Int → Int → List (List Int) → List Int → List Int → List (List Int) → Bool → Bool → Option (Bool)
  | 0, _, _, _, _, _, _, _, _, _ => none
  | k + 1, x0, x1, x2, x7, x8, x9, x10, x11, x12 => if (x8.length : Int) > 0 then (if x0 < 2 then (ramekinlaw5_RsBounds.j1 k x0 x2 x7 true) else (if x0 > 14 then (ramekinlaw5_RsBounds.j1 k x0 x2 x7 true) else (if x0 ≥ 2 then (if x0 ≤ 14 then (if (x8.length : Int) = x1 then (if (x9.length : Int) = x1 then (if (x11 != x12) = true then (ramekinlaw5_RsBounds.j1 k x0 x2 x7 true) else (if x12 = true then ((ramekinlaw5_same.f x10 x7).bind fun t144 => (ramekinlaw5_RsBounds.j1 k x0 x2 x7 (!t144))) else (ramekinlaw5_RsBounds.j1 k x0 x2 x7 false))) else (ramekinlaw5_RsBounds.j1 k x0 x2 x7 true)) else (ramekinlaw5_RsBounds.j1 k x0 x2 x7 true)) else (if (x11 != x12) = true then (ramekinlaw5_RsBounds.j1 k x0 x2 x7 true) else (if x12 = true then ((ramekinlaw5_same.f x10 x7).bind fun t145 => (ramekinlaw5_RsBounds.j1 k x0 x2 x7 (!t145))) else (ramekinlaw5_RsBounds.j1 k x0 x2 x7 false)))) else (if (x11 != x12) = true then (ramekinlaw5_RsBounds.j1 k x0 x2 x7 true) else (if x12 = true then ((ramekinlaw5_same.f x10 x7).bind fun t146 => (ramekinlaw5_RsBounds.j1 k x0 x2 x7 (!t146))) else (ramekinlaw5_RsBounds.j1 k x0 x2 x7 false)))))) else (if x0 ≥ 2 then (if x0 ≤ 14 then (if (x8.length : Int) = x1 then (if (x9.length : Int) = x1 then (if (x11 != x12) = true then (ramekinlaw5_RsBounds.j1 k x0 x2 x7 true) else (if x12 = true then ((ramekinlaw5_same.f x10 x7).bind fun t147 => (ramekinlaw5_RsBounds.j1 k x0 x2 x7 (!t147))) else (ramekinlaw5_RsBounds.j1 k x0 x2 x7 false))) else (ramekinlaw5_RsBounds.j1 k x0 x2 x7 true)) else (ramekinlaw5_RsBounds.j1 k x0 x2 x7 true)) else (if (x11 != x12) = true then (ramekinlaw5_RsBounds.j1 k x0 x2 x7 true) else (if x12 = true then ((ramekinlaw5_same.f x10 x7).bind fun t148 => (ramekinlaw5_RsBounds.j1 k x0 x2 x7 (!t148))) else (ramekinlaw5_RsBounds.j1 k x0 x2 x7 false)))) else (if (x11 != x12) = true then (ramekinlaw5_RsBounds.j1 k x0 x2 x7 true) else (if x12 = true then ((ramekinlaw5_same.f x10 x7).bind fun t149 => (ramekinlaw5_RsBounds.j1 k x0 x2 x7 (!t149))) else (ramekinlaw5_RsBounds.j1 k x0 x2 x7 false))))
noncomputable def ramekinlaw5_RsBounds.j1 : Nat → Int → Int → List (List Int) → Bool → Option (Bool)
  | 0, _, _, _, _ => none
  | k + 1, x0, x2, x7, x88 => if x88 = true then (some false) else (if x0 < 4 then (ramekinlaw5_RsBounds.j2 k x0 x2 x7 true) else (ramekinlaw5_RsBounds.j2 k x0 x2 x7 (decide (x0 > 16))))
noncomputable def ramekinlaw5_RsBounds.j2 : Nat → Int → Int → List (List Int) → Bool → Option (Bool)
  | 0, _, _, _, _ => none
  | k + 1, x0, x2, x7, x94 => if x94 = true then ((rs_Check.f x7).bind fun t150 => (some (!t150))) else ((ramekinlaw5_within.f x2 x0).bind fun t151 => ((some (([] : List Int) : List Int)).bind fun y152 => (if 0 ≤ t151 then (if t151 < (x7.length : Int) then (if y152.length + (rd_L2 x7 t151).length < 140737488355328 then ((some (y152 ++ (rd_L2 x7 t151) : List Int)).bind fun y156 => (if y156.length < 140737488355328 then ((some (x7.set (t151 : Int).toNat (y156 ++ [7]) : List (List Int))).bind fun y162 => ((rs_Fix.f y162 ([] : List Int)).bind fun bt163 => ((rs_Fix.f y162 (([t151] : List Int))).bind fun bt170 => (if bt163.2 = true then (some false) else (if bt170.2 = true then ((rs_Check.f y162).bind fun t174 => (some (!t174))) else (some false)))))) else (none))) else (none)) else (none)) else (none))))
end
noncomputable def ramekinlaw5_RsBounds.f (k : Nat) (a0 : Int) (a1 : Int) (a2 : Int) : Option (Bool) := (ramekinlaw5_known.f).bind fun t125 => (if t125 = true then ((ramekinlaw5_within.f a0 20).bind fun t126 => ((ramekinlaw5_within.f a1 5).bind fun t127 => ((ramekinlaw5_Rows.f (([1, 2, 3] : List Int)) t126 t127).bind fun t131 => ((rs_Parity.f t131).bind fun bt134 => ((rs_Fix.f t131 ([] : List Int)).bind fun bt140 => (if t126 ≥ 4 then (ramekinlaw5_RsBounds.j0 k t126 t127 a2 t131 bt134.1 bt134.2 bt140.1 bt140.2 (decide (t126 ≤ 16))) else (ramekinlaw5_RsBounds.j0 k t126 t127 a2 t131 bt134.1 bt134.2 bt140.1 bt140.2 false))))))) else (some false))
theorem ramekinlaw5_RsBounds.mono_l : ∀ k, (∀ y0 y1 y2 y3 y4 y5 y6 y7 y8, LeO (ramekinlaw5_RsBounds.j0 k y0 y1 y2 y3 y4 y5 y6 y7 y8) (ramekinlaw5_RsBounds.j0 (k + 1) y0 y1 y2 y3 y4 y5 y6 y7 y8)) ∧ (∀ y0 y1 y2 y3, LeO (ramekinlaw5_RsBounds.j1 k y0 y1 y2 y3) (ramekinlaw5_RsBounds.j1 (k + 1) y0 y1 y2 y3)) ∧ (∀ y0 y1 y2 y3, LeO (ramekinlaw5_RsBounds.j2 k y0 y1 y2 y3) (ramekinlaw5_RsBounds.j2 (k + 1) y0 y1 y2 y3))
  | 0 => ⟨fun _ _ _ _ _ _ _ _ _ r h => by simp [ramekinlaw5_RsBounds.j0] at h, fun _ _ _ _ r h => by simp [ramekinlaw5_RsBounds.j1] at h, fun _ _ _ _ r h => by simp [ramekinlaw5_RsBounds.j2] at h⟩
  | k + 1 => by
    obtain ⟨ih0, ih1, ih2⟩ := ramekinlaw5_RsBounds.mono_l k
    refine ⟨?_, ?_, ?_⟩
    · intro y0 y1 y2 y3 y4 y5 y6 y7 y8
      unfold ramekinlaw5_RsBounds.j0
      repeat' first
      | (with_reducible exact ih0 _ _ _ _ _ _ _ _ _)
      | (with_reducible exact ih1 _ _ _ _)
      | (with_reducible exact ih2 _ _ _ _)
      | (with_reducible exact LeO.refl _)
      | (with_reducible exact LeO.none _)
      | (with_reducible refine LeO.ite ?_ ?_)
      | (with_reducible refine LeO.bind ?_ (fun _ => ?_))
      | exact ih0 _ _ _ _ _ _ _ _ _
      | exact ih1 _ _ _ _
      | exact ih2 _ _ _ _
      | exact LeO.none _
      | refine LeO.ite ?_ ?_
      | refine LeO.bind ?_ (fun _ => ?_)
    · intro y0 y1 y2 y3
      unfold ramekinlaw5_RsBounds.j1
      repeat' first
      | (with_reducible exact ih0 _ _ _ _ _ _ _ _ _)
      | (with_reducible exact ih1 _ _ _ _)
      | (with_reducible exact ih2 _ _ _ _)
      | (with_reducible exact LeO.refl _)
      | (with_reducible exact LeO.none _)
      | (with_reducible refine LeO.ite ?_ ?_)
      | (with_reducible refine LeO.bind ?_ (fun _ => ?_))
      | exact ih0 _ _ _ _ _ _ _ _ _
      | exact ih1 _ _ _ _
      | exact ih2 _ _ _ _
      | exact LeO.none _
      | refine LeO.ite ?_ ?_
      | refine LeO.bind ?_ (fun _ => ?_)
    · intro y0 y1 y2 y3
      unfold ramekinlaw5_RsBounds.j2
      repeat' first
      | (with_reducible exact ih0 _ _ _ _ _ _ _ _ _)
      | (with_reducible exact ih1 _ _ _ _)
      | (with_reducible exact ih2 _ _ _ _)
      | (with_reducible exact LeO.refl _)
      | (with_reducible exact LeO.none _)
      | (with_reducible refine LeO.ite ?_ ?_)
      | (with_reducible refine LeO.bind ?_ (fun _ => ?_))
      | exact ih0 _ _ _ _ _ _ _ _ _
      | exact ih1 _ _ _ _
      | exact ih2 _ _ _ _
      | exact LeO.none _
      | refine LeO.ite ?_ ?_
      | refine LeO.bind ?_ (fun _ => ?_)
theorem ramekinlaw5_RsBounds.mono : ∀ a0 a1 a2 k, LeO (ramekinlaw5_RsBounds.f k a0 a1 a2) (ramekinlaw5_RsBounds.f (k + 1) a0 a1 a2) := by
  intro a0 a1 a2 k
  obtain ⟨ih0, ih1, ih2⟩ := ramekinlaw5_RsBounds.mono_l k
  unfold ramekinlaw5_RsBounds.f
  repeat' first
      | (with_reducible exact ih0 _ _ _ _ _ _ _ _ _)
      | (with_reducible exact ih1 _ _ _ _)
      | (with_reducible exact ih2 _ _ _ _)
      | (with_reducible exact LeO.refl _)
      | (with_reducible exact LeO.none _)
      | (with_reducible refine LeO.ite ?_ ?_)
      | (with_reducible refine LeO.bind ?_ (fun _ => ?_))
      | exact ih0 _ _ _ _ _ _ _ _ _
      | exact ih1 _ _ _ _
      | exact ih2 _ _ _ _
      | exact LeO.none _
      | refine LeO.ite ?_ ?_
      | refine LeO.bind ?_ (fun _ => ?_)
set_option maxHeartbeats 8000000 in
set_option maxRecDepth 100000 in
theorem ramekinlaw5_RsBounds.calls (k : Nat) (a0 : Int) (a1 : Int) (a2 : Int) (r : Bool) (w : World) (h : ramekinlaw5_RsBounds.f k a0 a1 a2 = some r) :
    Calls Try.prog 10 #[.int .i64 a0, .int .i64 a1, .int .i64 a2] w fun e w' => e = .returned (.bool r) ∧ Below w.heap.size w w' := by
  have HB := Aside0.mk (Below.refl w.heap.size w)
  have H : ((ramekinlaw5_known.f).bind fun t125 => (if t125 = true then ((ramekinlaw5_within.f a0 20).bind fun t126 => ((ramekinlaw5_within.f a1 5).bind fun t127 => ((ramekinlaw5_Rows.f (([1, 2, 3] : List Int)) t126 t127).bind fun t131 => ((rs_Parity.f t131).bind fun bt134 => ((rs_Fix.f t131 ([] : List Int)).bind fun bt140 => (if t126 ≥ 4 then (ramekinlaw5_RsBounds.j0 k t126 t127 a2 t131 bt134.1 bt134.2 bt140.1 bt140.2 (decide (t126 ≤ 16))) else (ramekinlaw5_RsBounds.j0 k t126 t127 a2 t131 bt134.1 bt134.2 bt140.1 bt140.2 false))))))) else (some false))) = some r := h
  clear h
  replace H := Option.bind_eq_some_iff.mp H
  obtain ⟨t125, A40, H⟩ := H
  replace H : (if t125 = true then ((ramekinlaw5_within.f a0 20).bind fun t126 => ((ramekinlaw5_within.f a1 5).bind fun t127 => ((ramekinlaw5_Rows.f (([1, 2, 3] : List Int)) t126 t127).bind fun t131 => ((rs_Parity.f t131).bind fun bt134 => ((rs_Fix.f t131 ([] : List Int)).bind fun bt140 => (if t126 ≥ 4 then (ramekinlaw5_RsBounds.j0 k t126 t127 a2 t131 bt134.1 bt134.2 bt140.1 bt140.2 (decide (t126 ≤ 16))) else (ramekinlaw5_RsBounds.j0 k t126 t127 a2 t131 bt134.1 bt134.2 bt140.1 bt140.2 false))))))) else (some false)) = some r := H
  have A4 := Aside0.mk A40
  clear A40
  by_cases c5 : t125 = true
  · subst c5
    have H1 : ((ramekinlaw5_within.f a0 20).bind fun t126 => ((ramekinlaw5_within.f a1 5).bind fun t127 => ((ramekinlaw5_Rows.f (([1, 2, 3] : List Int)) t126 t127).bind fun t131 => ((rs_Parity.f t131).bind fun bt134 => ((rs_Fix.f t131 ([] : List Int)).bind fun bt140 => (if t126 ≥ 4 then (ramekinlaw5_RsBounds.j0 k t126 t127 a2 t131 bt134.1 bt134.2 bt140.1 bt140.2 (decide (t126 ≤ 16))) else (ramekinlaw5_RsBounds.j0 k t126 t127 a2 t131 bt134.1 bt134.2 bt140.1 bt140.2 false))))))) = some r := by rw [if_pos rfl] at H; exact H
    clear H
    have H := H1
    clear H1
    replace H := Option.bind_eq_some_iff.mp H
    obtain ⟨t126, A60, H⟩ := H
    replace H : ((ramekinlaw5_within.f a1 5).bind fun t127 => ((ramekinlaw5_Rows.f (([1, 2, 3] : List Int)) t126 t127).bind fun t131 => ((rs_Parity.f t131).bind fun bt134 => ((rs_Fix.f t131 ([] : List Int)).bind fun bt140 => (if t126 ≥ 4 then (ramekinlaw5_RsBounds.j0 k t126 t127 a2 t131 bt134.1 bt134.2 bt140.1 bt140.2 (decide (t126 ≤ 16))) else (ramekinlaw5_RsBounds.j0 k t126 t127 a2 t131 bt134.1 bt134.2 bt140.1 bt140.2 false)))))) = some r := H
    have A6 := Aside0.mk A60
    clear A60
    replace H := Option.bind_eq_some_iff.mp H
    obtain ⟨t127, A70, H⟩ := H
    replace H : ((ramekinlaw5_Rows.f (([1, 2, 3] : List Int)) t126 t127).bind fun t131 => ((rs_Parity.f t131).bind fun bt134 => ((rs_Fix.f t131 ([] : List Int)).bind fun bt140 => (if t126 ≥ 4 then (ramekinlaw5_RsBounds.j0 k t126 t127 a2 t131 bt134.1 bt134.2 bt140.1 bt140.2 (decide (t126 ≤ 16))) else (ramekinlaw5_RsBounds.j0 k t126 t127 a2 t131 bt134.1 bt134.2 bt140.1 bt140.2 false))))) = some r := H
    have A7 := Aside0.mk A70
    clear A70
    obtain ⟨y128, hy128⟩ : ∃ y_ : List Int, y_ = (([1, 2, 3] : List Int)) := ⟨_, rfl⟩
    replace H : ((ramekinlaw5_Rows.f y128 t126 t127).bind fun t131 => ((rs_Parity.f t131).bind fun bt134 => ((rs_Fix.f t131 ([] : List Int)).bind fun bt140 => (if t126 ≥ 4 then (ramekinlaw5_RsBounds.j0 k t126 t127 a2 t131 bt134.1 bt134.2 bt140.1 bt140.2 (decide (t126 ≤ 16))) else (ramekinlaw5_RsBounds.j0 k t126 t127 a2 t131 bt134.1 bt134.2 bt140.1 bt140.2 false))))) = some r := by first | (rw [hy128]; with_reducible exact H) | (have H2_ := (Option.bind_some _ _).symm.trans H; rw [hy128]; with_reducible exact H2_) | (have H2_ := (Option.bind_some _ _).symm.trans H; with_reducible exact H2_) | with_reducible exact H | (rw [hy128]; exact H) | exact H
    have Ny128 := Aside0.mk hy128
    clear hy128
    replace H := Option.bind_eq_some_iff.mp H
    obtain ⟨t131, A80, H⟩ := H
    replace H : ((rs_Parity.f t131).bind fun bt134 => ((rs_Fix.f t131 ([] : List Int)).bind fun bt140 => (if t126 ≥ 4 then (ramekinlaw5_RsBounds.j0 k t126 t127 a2 t131 bt134.1 bt134.2 bt140.1 bt140.2 (decide (t126 ≤ 16))) else (ramekinlaw5_RsBounds.j0 k t126 t127 a2 t131 bt134.1 bt134.2 bt140.1 bt140.2 false)))) = some r := H
    have A8 := Aside0.mk A80
    clear A80
    replace H := Option.bind_eq_some_iff.mp H
    obtain ⟨⟨t134, t135⟩, A90, H⟩ := H
    replace H : ((rs_Fix.f t131 ([] : List Int)).bind fun bt140 => (if t126 ≥ 4 then (ramekinlaw5_RsBounds.j0 k t126 t127 a2 t131 t134 t135 bt140.1 bt140.2 (decide (t126 ≤ 16))) else (ramekinlaw5_RsBounds.j0 k t126 t127 a2 t131 t134 t135 bt140.1 bt140.2 false))) = some r := H
    have A9 := Aside0.mk A90
    clear A90
    replace H := Option.bind_eq_some_iff.mp H
    obtain ⟨⟨t140, t143⟩, A100, H⟩ := H
    replace H : (if t126 ≥ 4 then (ramekinlaw5_RsBounds.j0 k t126 t127 a2 t131 t134 t135 t140 t143 (decide (t126 ≤ 16))) else (ramekinlaw5_RsBounds.j0 k t126 t127 a2 t131 t134 t135 t140 t143 false)) = some r := H
    have A10 := Aside0.mk A100
    clear A100
    have HC11 := Aside0.mk H
    clear H
    go_enter Try.func10, Try.ntmps10
    go_upto_region 7 with (first | ((with_reducible refine gate_callee (f := 11) rfl ?_); refine goesL_ (some 18) rfl rfl Try.func11 (by kernel_rfl) rfl #[] rfl (by (try simp only [List.map_toArray, List.map_cons, List.map_nil]); first | done | rfl | (simp only [List.length_drop, List.length_take]; rfl)) ?_; (with_reducible refine (ramekinlaw5_known.calls  true _ A4.out).mono ?_); rintro e w12 ⟨rfl, hb⟩; refine ⟨_, rfl, ?_⟩; have n0_ := Aside0.mk (below_step (by repeat (first | (with_reducible first | exact HB.out | apply below_alloc | apply pw_below_drewN | apply below_drew1) | exact HB.out)) hb); clear HB; have HB := n0_; clear n0_; (try clear hb); (try clear hb2); (try clear hk); (try clear hi)) | ((with_reducible refine gate_callee (f := 12) rfl ?_); refine goesL_ (some 21) rfl rfl Try.func12 (by kernel_rfl) rfl #[.int .i64 a0, .int .i64 20] rfl (by (try simp only [List.map_toArray, List.map_cons, List.map_nil]); first | done | rfl | (simp only [List.length_drop, List.length_take]; rfl)) ?_; (with_reducible refine (ramekinlaw5_within.calls a0 20 t126 _ A6.out).mono ?_); rintro e w' ⟨rfl, ⟨nd, rfl⟩⟩; refine ⟨_, rfl, ?_⟩) | ((with_reducible refine gate_callee (f := 12) rfl ?_); refine goesL_ (some 23) rfl rfl Try.func12 (by kernel_rfl) rfl #[.int .i64 a1, .int .i64 5] rfl (by (try simp only [List.map_toArray, List.map_cons, List.map_nil]); first | done | rfl | (simp only [List.length_drop, List.length_take]; rfl)) ?_; (with_reducible refine (ramekinlaw5_within.calls a1 5 t127 _ A7.out).mono ?_); rintro e w' ⟨rfl, ⟨nd, rfl⟩⟩; refine ⟨_, rfl, ?_⟩) | ((with_reducible refine gate_dst (N := 24) rfl ?_); (try (refine gate_guard (by rfl) ?_; dsimp only)); refine Kd.R_lit (Kd.int .u8) _ 5 ?hg (N := 24) ?hd (xs := ([1, 2, 3] : List Int)) (inner := [.int .u8 1, .int .u8 2, .int .u8 3]) (ok := fun _ => True) (okp := fun _ => True) ?hr ?hp (fun _ hk => hk) trivial (Below.refl _ _) (Nat.le_refl _) (by simp) ?_; (case hd => rfl); (case hg => rfl); (case hr => first | (go_simp; done) | (go_simp; rfl)); (case hp => exact (Reps.one (show Kd.M (Kd.int .u8) _ _ _ 1 [.int .u8 1] from rfl) (Reps.one (show Kd.M (Kd.int .u8) _ _ _ 2 [.int .u8 2] from rfl) (Reps.one (show Kd.M (Kd.int .u8) _ _ _ 3 [.int .u8 3] from rfl) (Reps.none _ _))))); intro v129 w13 ho14 hb hg_ hnew_; clear hg_ hnew_; (first | rw [← Ny128.out] at ho14 | (simp only [Int.reduceToNat] at ho14; rw [← Ny128.out] at ho14)); have n0_ := Aside0.mk (Kd.R_lower ho14 (below_size (by repeat (first | (with_reducible first | exact HB.out | apply below_alloc | apply pw_below_drewN | apply below_drew1) | exact HB.out)))); have n1_ := Aside0.mk (below_step (by repeat (first | (with_reducible first | exact HB.out | apply below_alloc | apply pw_below_drewN | apply below_drew1) | exact HB.out)) hb); clear HB; have HO130 := n0_; have HB := n1_; clear n0_ n1_; clear hb ho14; obtain ⟨Ao15, co15, eo15⟩ := Kd.R_slice HO130.out; subst eo15) | ((with_reducible refine gate_callee (f := 13) rfl ?_); refine goesL_ (some 27) rfl rfl Try.func13 (by kernel_rfl) rfl #[.slice Ao15 y128.length co15, .int .i64 t126, .int .i64 t127] rfl (by (try simp only [List.map_toArray, List.map_cons, List.map_nil]); first | done | rfl | (simp only [List.length_drop, List.length_take]; rfl)) ?_; (with_reducible refine (ramekinlaw5_Rows.calls _ _ y128 t126 t127 t131 _ ?side1 ?side2 A8.out).mono ?_); (case side1 => repeat (first | exact (Kd.R_reads' HO130.out).2.2 | (with_reducible refine Kd.C_alloc ?_ _) | (with_reducible refine Kd.C_drewN ?_ _) | (with_reducible refine Kd.C_drew ?_))); (case side2 => exact (Kd.R_reads' HO130.out).2.1); rintro e w16 ⟨v132, rfl, ho0, hb⟩; refine ⟨_, rfl, ?_⟩; have n0_ := Aside0.mk (Kd.R_below (by (with_reducible repeat (first | apply Kd.R_alloc | apply Kd.R_drewN | apply Kd.R_drew)); exact HO130.out) hb); have n1_ := Aside0.mk (Kd.N_lower (Kd.N_mono (ok' := fun k_ => some k_ ≠ (.slice Ao15 y128.length co15 : Value).ownBlock) ho0 (fun k_ hk_ => (Kd.fresh' (Kd.R_lt (by (with_reducible repeat (first | apply Kd.R_alloc | apply Kd.R_drewN | apply Kd.R_drew)); exact HO130.out)) k_ hk_))) (below_size (by repeat (first | (with_reducible first | exact HB.out | apply below_alloc | apply pw_below_drewN | apply below_drew1) | exact HB.out)))); have n2_ := Aside0.mk (below_step (by repeat (first | (with_reducible first | exact HB.out | apply below_alloc | apply pw_below_drewN | apply below_drew1) | exact HB.out)) hb); clear HO130; clear HB; have HO130 := n0_; have HO133 := n1_; have HB := n2_; clear n0_ n1_ n2_; (try clear hb); (try clear hb2); (try clear hk); (try clear hi); (try clear ho0); obtain ⟨Ao17, co17, eo17⟩ := Kd.N_slice HO133.out; subst eo17) | ((with_reducible refine gate_callee (f := 14) rfl ?_); refine goesL_ (some 30) rfl rfl Try.func14 (by kernel_rfl) rfl #[.slice Ao17 t131.length co17] rfl (by (try simp only [List.map_toArray, List.map_cons, List.map_nil]); first | done | rfl | (simp only [List.length_drop, List.length_take]; rfl)) ?_; (with_reducible refine (rs_Parity.calls _ _ t131 t134 t135 _ ?side1 ?side2 A9.out).mono ?_); (case side1 => repeat (first | exact (Kd.N_reads' HO133.out).2.2 | (with_reducible refine Kd.C_alloc ?_ _) | (with_reducible refine Kd.C_drewN ?_ _) | (with_reducible refine Kd.C_drew ?_))); (case side2 => exact (Kd.N_reads' HO133.out).2.1); rintro e w18 ⟨v136, v138, rfl, ho0, ho1, hb⟩; refine ⟨_, rfl, ?_⟩; have n0_ := Aside0.mk (Kd.R_mono (Kd.R_told (Kd.R_told (Kd.R_old (by (with_reducible repeat (first | apply Kd.R_alloc | apply Kd.R_drewN | apply Kd.R_drew)); exact HO130.out) hb) (Kd.R_base ho0)) (Kd.R_base ho1)) (fun _ h_ => h_.1)); have n1_ := Aside0.mk (Kd.N_mono (Kd.N_told (Kd.N_told (Kd.N_old (by (with_reducible repeat (first | apply Kd.N_alloc | apply Kd.N_drewN | apply Kd.N_drew)); exact HO133.out) hb) (Kd.R_base ho0)) (Kd.R_base ho1)) (fun _ h_ => h_.1)); have n2_ := Aside0.mk (Kd.R_lower (Kd.R_new' ho0 (Kd.R_lt (by (with_reducible repeat (first | apply Kd.R_alloc | apply Kd.R_drewN | apply Kd.R_drew)); exact HO130.out))) (below_size (by repeat (first | (with_reducible first | exact HB.out | apply below_alloc | apply pw_below_drewN | apply below_drew1) | exact HB.out)))); have n3_ := Aside0.mk (Kd.R_lower (Kd.R_new' ho1 (Kd.R_lt (by (with_reducible repeat (first | apply Kd.R_alloc | apply Kd.R_drewN | apply Kd.R_drew)); exact HO130.out))) (below_size (by repeat (first | (with_reducible first | exact HB.out | apply below_alloc | apply pw_below_drewN | apply below_drew1) | exact HB.out)))); have n4_ := Aside0.mk (below_step (by repeat (first | (with_reducible first | exact HB.out | apply below_alloc | apply pw_below_drewN | apply below_drew1) | exact HB.out)) hb); clear HO130; clear HO133; clear HB; have HO130 := n0_; have HO133 := n1_; have HO137 := n2_; have HO139 := n3_; have HB := n4_; clear n0_ n1_ n2_ n3_ n4_; (try clear hb); (try clear hb2); (try clear hk); (try clear hi); (try clear ho0); (try clear ho1)) | ((with_reducible refine gate_callee (f := 22) rfl ?_); refine goesL_ (some 35) rfl rfl Try.func22 (by kernel_rfl) rfl #[.slice Ao17 t131.length co17, .slice none 0 0] rfl (by (try simp only [List.map_toArray, List.map_cons, List.map_nil]); first | done | rfl | (simp only [List.length_drop, List.length_take]; rfl)) ?_; (refine (rs_Fix.calls _ _ t131 _ _ ([] : List Int) t140 t143 _ ?side1 ?side2 ?side3 ?side4 A10.out).mono ?_); (case side1 => repeat (first | exact (Kd.N_reads' HO133.out).2.2 | (with_reducible refine Kd.C_alloc ?_ _) | (with_reducible refine Kd.C_drewN ?_ _) | (with_reducible refine Kd.C_drew ?_))); (case side2 => exact (Kd.N_reads' HO133.out).2.1); (case side3 => exact Kd.C_nil _ _); (case side4 => exact Nat.le_refl _); rintro e w19 ⟨v141, rfl, ho0, hb⟩; refine ⟨_, rfl, ?_⟩; have n0_ := Aside0.mk (Kd.R_below (by (with_reducible repeat (first | apply Kd.R_alloc | apply Kd.R_drewN | apply Kd.R_drew)); exact HO130.out) hb); have n1_ := Aside0.mk (Kd.N_elder' (by (with_reducible repeat (first | apply Kd.N_alloc | apply Kd.N_drewN | apply Kd.N_drew)); exact HO133.out) (Kd.N_base ho0) hb); have n2_ := Aside0.mk (Kd.R_below (by (with_reducible repeat (first | apply Kd.R_alloc | apply Kd.R_drewN | apply Kd.R_drew)); exact HO137.out) hb); have n3_ := Aside0.mk (Kd.R_below (by (with_reducible repeat (first | apply Kd.R_alloc | apply Kd.R_drewN | apply Kd.R_drew)); exact HO139.out) hb); have n4_ := Aside0.mk (Kd.N_lower (Kd.N_mono (ok' := fun k_ => some k_ ≠ (.slice Ao15 y128.length co15 : Value).ownBlock ∧ some k_ ≠ (.slice Ao17 t131.length co17 : Value).ownBlock ∧ some k_ ≠ (v136 : Value).ownBlock ∧ some k_ ≠ (v138 : Value).ownBlock) ho0 (fun k_ hk_ => ⟨(Kd.fresh' (Kd.R_lt (by (with_reducible repeat (first | apply Kd.R_alloc | apply Kd.R_drewN | apply Kd.R_drew)); exact HO130.out)) k_ hk_), (Kd.fresh' (Kd.N_lt (by (with_reducible repeat (first | apply Kd.N_alloc | apply Kd.N_drewN | apply Kd.N_drew)); exact HO133.out)) k_ hk_), (Kd.fresh' (Kd.R_lt (by (with_reducible repeat (first | apply Kd.R_alloc | apply Kd.R_drewN | apply Kd.R_drew)); exact HO137.out)) k_ hk_), (Kd.fresh' (Kd.R_lt (by (with_reducible repeat (first | apply Kd.R_alloc | apply Kd.R_drewN | apply Kd.R_drew)); exact HO139.out)) k_ hk_)⟩)) (below_size (by repeat (first | (with_reducible first | exact HB.out | apply below_alloc | apply pw_below_drewN | apply below_drew1) | exact HB.out)))); have n5_ := Aside0.mk (below_step (by repeat (first | (with_reducible first | exact HB.out | apply below_alloc | apply pw_below_drewN | apply below_drew1) | exact HB.out)) hb); clear HO130; clear HO133; clear HO137; clear HO139; clear HB; have HO130 := n0_; have HO133 := n1_; have HO137 := n2_; have HO139 := n3_; have HO142 := n4_; have HB := n5_; clear n0_ n1_ n2_ n3_ n4_ n5_; (try clear hb); (try clear hb2); (try clear hk); (try clear hi); (try clear ho0)))
    (try simp only [Act.put, List.setIfInBounds_toArray, List.set_cons_zero, List.set_cons_succ])
    go_cut [12] (fun v12 wc => ∃ (kq : Nat) (x12_10 : Bool), v12 = .bool x12_10 ∧ Aside0 (ramekinlaw5_RsBounds.j0 kq t126 t127 a2 t131 t134 t135 t140 t143 x12_10 = some r) ∧ Aside0 (kq ≤ k) ∧ Aside0 (Kd.N (Kd.slice 5 (Kd.int .u8)) 22 wc w.heap.size (fun k_ => some k_ ≠ (v136 : Value).ownBlock ∧ some k_ ≠ (v138 : Value).ownBlock ∧ some k_ ≠ (v141 : Value).ownBlock) (.slice Ao17 t131.length co17) t131) ∧ Aside0 (Kd.R (Kd.int .u8) 5 wc w.heap.size (fun k_ => some k_ ≠ (v138 : Value).ownBlock) v136 t134) ∧ Aside0 (Kd.R (Kd.int .u8) 5 wc w.heap.size (fun k_ => some k_ ≠ (v136 : Value).ownBlock) v138 t135) ∧ Aside0 (Kd.N (Kd.slice 5 (Kd.int .u8)) 22 wc w.heap.size (fun k_ => some k_ ≠ ((.slice Ao17 t131.length co17) : Value).ownBlock ∧ some k_ ≠ (v136 : Value).ownBlock ∧ some k_ ≠ (v138 : Value).ownBlock) v141 t140) ∧ Aside0 (Below w.heap.size w wc))
    case first =>
      have H := HC11.out
      clear HC11
      by_cases c20 : t126 ≥ 4
      · rw [if_pos c20] at H
        have c20b0 : decide (4 ≤ t126) = true := decide_eq_true c20
        clear c20
        (first | rw [c20b0] | (simp only [i64_w, i32_w]; rw [c20b0]) | skip)
        have H' := Aside0.mk H
        clear H
        go_wp2
        go_meet
        case rel => exact ⟨_, (decide (t126 ≤ 16)), (by first | rfl | (simp; done) | (simp [*]; done)), H', ⟨by first | omega | exact Nat.le_refl _⟩, ⟨by (with_reducible repeat (first | apply Kd.N_alloc | apply Kd.N_drewN | apply Kd.N_drew)); exact Kd.N_mono HO133.out (fun _ hk => ⟨hk.1.1.2, ⟨hk.1.2, hk.2⟩⟩)⟩, ⟨by (with_reducible repeat (first | apply Kd.R_alloc | apply Kd.R_drewN | apply Kd.R_drew)); exact Kd.R_mono HO137.out (fun _ hk => hk.1)⟩, ⟨by (with_reducible repeat (first | apply Kd.R_alloc | apply Kd.R_drewN | apply Kd.R_drew)); exact Kd.R_mono HO139.out (fun _ hk => hk.1)⟩, ⟨by (with_reducible repeat (first | apply Kd.N_alloc | apply Kd.N_drewN | apply Kd.N_drew)); exact Kd.N_mono HO142.out (fun _ hk => ⟨hk.2.1, ⟨hk.2.2.1, hk.2.2.2⟩⟩)⟩, ⟨by repeat (first | (with_reducible first | exact HB.out | apply below_alloc | apply pw_below_drewN | apply below_drew1) | exact HB.out)⟩⟩
      · rw [if_neg c20] at H
        have c20b0 : decide (4 ≤ t126) = false := decide_eq_false c20
        clear c20
        (first | rw [c20b0] | (simp only [i64_w, i32_w]; rw [c20b0]) | skip)
        have H' := Aside0.mk H
        clear H
        go_wp2
        go_meet
        case rel => exact ⟨_, (false), (by first | rfl | (simp; done) | (simp [*]; done)), H', ⟨by first | omega | exact Nat.le_refl _⟩, ⟨by (with_reducible repeat (first | apply Kd.N_alloc | apply Kd.N_drewN | apply Kd.N_drew)); exact Kd.N_mono HO133.out (fun _ hk => ⟨hk.1.1.2, ⟨hk.1.2, hk.2⟩⟩)⟩, ⟨by (with_reducible repeat (first | apply Kd.R_alloc | apply Kd.R_drewN | apply Kd.R_drew)); exact Kd.R_mono HO137.out (fun _ hk => hk.1)⟩, ⟨by (with_reducible repeat (first | apply Kd.R_alloc | apply Kd.R_drewN | apply Kd.R_drew)); exact Kd.R_mono HO139.out (fun _ hk => hk.1)⟩, ⟨by (with_reducible repeat (first | apply Kd.N_alloc | apply Kd.N_drewN | apply Kd.N_drew)); exact Kd.N_mono HO142.out (fun _ hk => ⟨hk.2.1, ⟨hk.2.2.1, hk.2.2.2⟩⟩)⟩, ⟨by repeat (first | (with_reducible first | exact HB.out | apply below_alloc | apply pw_below_drewN | apply below_drew1) | exact HB.out)⟩⟩
    case rest =>
      clear HC11
      try clear c1
      try clear c2
      try clear p2
      try clear c5
      try clear c10
      try clear c11
      try clear c12
      try clear c13
      try clear c14
      try clear c20
      try clear c20b0
      obtain ⟨kq, x12_10, rfl, HA, HJ10, HO_7, HO_8, HO_9, HO_10, HB⟩ := hcut
      cases kq with
      | zero => exact absurd HA.out (by simp [ramekinlaw5_RsBounds.j0])
      | succ kj10 =>
        have H := HA.out
        clear HA
        simp only [ramekinlaw5_RsBounds.j0] at H
        have HC21 := Aside0.mk H
        clear H
        go_upto_region 8 with (fail)
        go_cut [88] (fun v88 wc => ∃ (kq : Nat) (x88_20 : Bool), v88 = .bool x88_20 ∧ Aside0 (ramekinlaw5_RsBounds.j1 kq t126 a2 t131 x88_20 = some r) ∧ Aside0 (kq ≤ kj10) ∧ Aside0 (Kd.N (Kd.slice 5 (Kd.int .u8)) 22 wc w.heap.size (fun _ => True) (.slice Ao17 t131.length co17) t131) ∧ Aside0 (Below w.heap.size w wc))
        case first =>
          have H := HC21.out
          clear HC21
          by_cases c22 : (t134.length : Int) > 0
          · rw [if_pos c22] at H
            have c22b0 : decide (0 < (t134.length : Int)) = true := decide_eq_true c22
            have c22b1 : decide (0 < t134.length) = true := decide_eq_true (by omega)
            clear c22
            (first | rw [c22b0] | (simp only [i64_w, i32_w]; rw [c22b0]) | skip)
            by_cases c23 : t126 < 2
            · rw [if_pos c23] at H
              have c23b0 : decide (t126 < 2) = true := decide_eq_true c23
              clear c23
              have H' := Aside0.mk H
              clear H
              obtain ⟨Ao24, co24, eo24⟩ := Kd.R_slice HO_8.out
              subst eo24
              go_wp2
              go_meet
              case rel => exact ⟨_, (true), (by first | rfl | (simp; done) | (simp [*]; done)), H', ⟨by have := HJ10.out; first | omega | exact Nat.le_refl _⟩, ⟨by (with_reducible repeat (first | apply Kd.N_alloc | apply Kd.N_drewN | apply Kd.N_drew)); exact Kd.N_mono HO_7.out (fun _ hk => trivial)⟩, ⟨by repeat (first | (with_reducible first | exact HB.out | apply below_alloc | apply pw_below_drewN | apply below_drew1) | exact HB.out)⟩⟩
            · rw [if_neg c23] at H
              have c23b0 : decide (t126 < 2) = false := decide_eq_false c23
              clear c23
              by_cases c25 : t126 > 14
              · rw [if_pos c25] at H
                have c25b0 : decide (14 < t126) = true := decide_eq_true c25
                clear c25
                have H' := Aside0.mk H
                clear H
                obtain ⟨Ao26, co26, eo26⟩ := Kd.R_slice HO_8.out
                subst eo26
                go_wp2
                go_meet
                case rel => exact ⟨_, (true), (by first | rfl | (simp; done) | (simp [*]; done)), H', ⟨by have := HJ10.out; first | omega | exact Nat.le_refl _⟩, ⟨by (with_reducible repeat (first | apply Kd.N_alloc | apply Kd.N_drewN | apply Kd.N_drew)); exact Kd.N_mono HO_7.out (fun _ hk => trivial)⟩, ⟨by repeat (first | (with_reducible first | exact HB.out | apply below_alloc | apply pw_below_drewN | apply below_drew1) | exact HB.out)⟩⟩
              · rw [if_neg c25] at H
                have c25b0 : decide (14 < t126) = false := decide_eq_false c25
                clear c25
                by_cases c27 : t126 ≥ 2
                · rw [if_pos c27] at H
                  have c27b0 : decide (2 ≤ t126) = true := decide_eq_true c27
                  clear c27
                  by_cases c28 : t126 ≤ 14
                  · rw [if_pos c28] at H
                    have c28b0 : decide (t126 ≤ 14) = true := decide_eq_true c28
                    clear c28
                    by_cases c29 : (t134.length : Int) = t127
                    · rw [if_pos c29] at H
                      have c29b0 : ((t134.length : Int) == t127) = true := beq_iff_eq.mpr c29
                      have c29b1 : ((t134.length : Int) != t127) = false := bne_eq_false_iff_eq.mpr c29
                      clear c29
                      by_cases c30 : (t135.length : Int) = t127
                      · rw [if_pos c30] at H
                        have c30b0 : ((t135.length : Int) == t127) = true := beq_iff_eq.mpr c30
                        have c30b1 : ((t135.length : Int) != t127) = false := bne_eq_false_iff_eq.mpr c30
                        clear c30
                        by_cases c31 : (t143 != x12_10) = true
                        · rw [if_pos c31] at H
                          have c31b0 : (t143 != x12_10) = true := c31
                          (try (have c31b1 : decide (t143 = x12_10) = false := by simpa using c31))
                          (try (have c31b2 : (t143 == x12_10) = false := by simpa using c31))
                          (try (have c31b3 : ¬ (t143 = x12_10) := by simpa using c31))
                          clear c31
                          have H' := Aside0.mk H
                          clear H
                          obtain ⟨Ao32, co32, eo32⟩ := Kd.R_slice HO_8.out
                          subst eo32
                          obtain ⟨Ao33, co33, eo33⟩ := Kd.R_slice HO_9.out
                          subst eo33
                          go_wp2
                          go_meet
                          case rel => exact ⟨_, (true), (by first | rfl | (simp; done) | (simp [*]; done)), H', ⟨by have := HJ10.out; first | omega | exact Nat.le_refl _⟩, ⟨by (with_reducible repeat (first | apply Kd.N_alloc | apply Kd.N_drewN | apply Kd.N_drew)); exact Kd.N_mono HO_7.out (fun _ hk => trivial)⟩, ⟨by repeat (first | (with_reducible first | exact HB.out | apply below_alloc | apply pw_below_drewN | apply below_drew1) | exact HB.out)⟩⟩
                        · rw [if_neg c31] at H
                          have c31b0 : (t143 != x12_10) = false := by simpa using c31
                          (try (have c31b1 : decide (t143 = x12_10) = true := by simpa using c31))
                          (try (have c31b2 : (t143 == x12_10) = true := by simpa using c31))
                          clear c31
                          by_cases c34 : x12_10 = true
                          · subst c34
                            have H1 : ((ramekinlaw5_same.f t140 t131).bind fun t144 => (ramekinlaw5_RsBounds.j1 kj10 t126 a2 t131 (!t144))) = some r := by rw [if_pos rfl] at H; exact H
                            clear H
                            have H := H1
                            clear H1
                            replace H := Option.bind_eq_some_iff.mp H
                            obtain ⟨t144, A350, H⟩ := H
                            replace H : (ramekinlaw5_RsBounds.j1 kj10 t126 a2 t131 (!t144)) = some r := H
                            have A35 := Aside0.mk A350
                            clear A350
                            have H' := Aside0.mk H
                            clear H
                            obtain ⟨Ao36, co36, eo36⟩ := Kd.R_slice HO_8.out
                            subst eo36
                            obtain ⟨Ao37, co37, eo37⟩ := Kd.R_slice HO_9.out
                            subst eo37
                            obtain ⟨Ao38, co38, eo38⟩ := Kd.N_slice HO_10.out
                            subst eo38
                            go_wp2_with (first | (go_at_call 23; (with_reducible refine (ramekinlaw5_same.calls _ _ t140 _ _ t131 t144 _ ?side1 ?side2 ?side3 ?side4 A35.out).mono ?_); (case side1 => repeat (first | exact (Kd.N_reads' HO_10.out).2.2 | (with_reducible refine Kd.C_alloc ?_ _) | (with_reducible refine Kd.C_drewN ?_ _) | (with_reducible refine Kd.C_drew ?_))); (case side2 => exact (Kd.N_reads' HO_10.out).2.1); (case side3 => repeat (first | exact (Kd.N_reads' HO_7.out).2.2 | (with_reducible refine Kd.C_alloc ?_ _) | (with_reducible refine Kd.C_drewN ?_ _) | (with_reducible refine Kd.C_drew ?_))); (case side4 => exact (Kd.N_reads' HO_7.out).2.1); rintro e w' ⟨rfl, ⟨nd, rfl⟩⟩))
                            go_meet
                            case rel => exact ⟨_, (!t144), (by first | rfl | (simp; done) | (simp [*]; done)), H', ⟨by have := HJ10.out; first | omega | exact Nat.le_refl _⟩, ⟨by (with_reducible repeat (first | apply Kd.N_alloc | apply Kd.N_drewN | apply Kd.N_drew)); exact Kd.N_mono HO_7.out (fun _ hk => trivial)⟩, ⟨by repeat (first | (with_reducible first | exact HB.out | apply below_alloc | apply pw_below_drewN | apply below_drew1) | exact HB.out)⟩⟩
                          · replace c34 := Bool.eq_false_iff.mpr c34
                            subst c34
                            have H1 : (ramekinlaw5_RsBounds.j1 kj10 t126 a2 t131 false) = some r := by rw [if_neg (show ¬ (false = true) by decide)] at H; exact H
                            clear H
                            have H := H1
                            clear H1
                            have H' := Aside0.mk H
                            clear H
                            obtain ⟨Ao39, co39, eo39⟩ := Kd.R_slice HO_8.out
                            subst eo39
                            obtain ⟨Ao40, co40, eo40⟩ := Kd.R_slice HO_9.out
                            subst eo40
                            go_wp2
                            go_meet
                            case rel => exact ⟨_, (false), (by first | rfl | (simp; done) | (simp [*]; done)), H', ⟨by have := HJ10.out; first | omega | exact Nat.le_refl _⟩, ⟨by (with_reducible repeat (first | apply Kd.N_alloc | apply Kd.N_drewN | apply Kd.N_drew)); exact Kd.N_mono HO_7.out (fun _ hk => trivial)⟩, ⟨by repeat (first | (with_reducible first | exact HB.out | apply below_alloc | apply pw_below_drewN | apply below_drew1) | exact HB.out)⟩⟩
                      · rw [if_neg c30] at H
                        have c30b0 : ((t135.length : Int) == t127) = false := beq_eq_false_iff_ne.mpr c30
                        have c30b1 : ((t135.length : Int) != t127) = true := bne_iff_ne.mpr c30
                        have H' := Aside0.mk H
                        clear H
                        obtain ⟨Ao41, co41, eo41⟩ := Kd.R_slice HO_8.out
                        subst eo41
                        obtain ⟨Ao42, co42, eo42⟩ := Kd.R_slice HO_9.out
                        subst eo42
                        go_wp2
                        go_meet
                        case rel => exact ⟨_, (true), (by first | rfl | (simp; done) | (simp [*]; done)), H', ⟨by have := HJ10.out; first | omega | exact Nat.le_refl _⟩, ⟨by (with_reducible repeat (first | apply Kd.N_alloc | apply Kd.N_drewN | apply Kd.N_drew)); exact Kd.N_mono HO_7.out (fun _ hk => trivial)⟩, ⟨by repeat (first | (with_reducible first | exact HB.out | apply below_alloc | apply pw_below_drewN | apply below_drew1) | exact HB.out)⟩⟩
                    · rw [if_neg c29] at H
                      have c29b0 : ((t134.length : Int) == t127) = false := beq_eq_false_iff_ne.mpr c29
                      have c29b1 : ((t134.length : Int) != t127) = true := bne_iff_ne.mpr c29
                      have H' := Aside0.mk H
                      clear H
                      obtain ⟨Ao43, co43, eo43⟩ := Kd.R_slice HO_8.out
                      subst eo43
                      go_wp2
                      go_meet
                      case rel => exact ⟨_, (true), (by first | rfl | (simp; done) | (simp [*]; done)), H', ⟨by have := HJ10.out; first | omega | exact Nat.le_refl _⟩, ⟨by (with_reducible repeat (first | apply Kd.N_alloc | apply Kd.N_drewN | apply Kd.N_drew)); exact Kd.N_mono HO_7.out (fun _ hk => trivial)⟩, ⟨by repeat (first | (with_reducible first | exact HB.out | apply below_alloc | apply pw_below_drewN | apply below_drew1) | exact HB.out)⟩⟩
                  · rw [if_neg c28] at H
                    have c28b0 : decide (t126 ≤ 14) = false := decide_eq_false c28
                    clear c28
                    by_cases c44 : (t143 != x12_10) = true
                    · rw [if_pos c44] at H
                      have c44b0 : (t143 != x12_10) = true := c44
                      (try (have c44b1 : decide (t143 = x12_10) = false := by simpa using c44))
                      (try (have c44b2 : (t143 == x12_10) = false := by simpa using c44))
                      (try (have c44b3 : ¬ (t143 = x12_10) := by simpa using c44))
                      clear c44
                      have H' := Aside0.mk H
                      clear H
                      obtain ⟨Ao45, co45, eo45⟩ := Kd.R_slice HO_8.out
                      subst eo45
                      go_wp2
                      go_meet
                      case rel => exact ⟨_, (true), (by first | rfl | (simp; done) | (simp [*]; done)), H', ⟨by have := HJ10.out; first | omega | exact Nat.le_refl _⟩, ⟨by (with_reducible repeat (first | apply Kd.N_alloc | apply Kd.N_drewN | apply Kd.N_drew)); exact Kd.N_mono HO_7.out (fun _ hk => trivial)⟩, ⟨by repeat (first | (with_reducible first | exact HB.out | apply below_alloc | apply pw_below_drewN | apply below_drew1) | exact HB.out)⟩⟩
                    · rw [if_neg c44] at H
                      have c44b0 : (t143 != x12_10) = false := by simpa using c44
                      (try (have c44b1 : decide (t143 = x12_10) = true := by simpa using c44))
                      (try (have c44b2 : (t143 == x12_10) = true := by simpa using c44))
                      clear c44
                      by_cases c46 : x12_10 = true
                      · subst c46
                        have H1 : ((ramekinlaw5_same.f t140 t131).bind fun t145 => (ramekinlaw5_RsBounds.j1 kj10 t126 a2 t131 (!t145))) = some r := by rw [if_pos rfl] at H; exact H
                        clear H
                        have H := H1
                        clear H1
                        replace H := Option.bind_eq_some_iff.mp H
                        obtain ⟨t145, A470, H⟩ := H
                        replace H : (ramekinlaw5_RsBounds.j1 kj10 t126 a2 t131 (!t145)) = some r := H
                        have A47 := Aside0.mk A470
                        clear A470
                        have H' := Aside0.mk H
                        clear H
                        obtain ⟨Ao48, co48, eo48⟩ := Kd.R_slice HO_8.out
                        subst eo48
                        obtain ⟨Ao49, co49, eo49⟩ := Kd.N_slice HO_10.out
                        subst eo49
                        go_wp2_with (first | (go_at_call 23; (with_reducible refine (ramekinlaw5_same.calls _ _ t140 _ _ t131 t145 _ ?side1 ?side2 ?side3 ?side4 A47.out).mono ?_); (case side1 => repeat (first | exact (Kd.N_reads' HO_10.out).2.2 | (with_reducible refine Kd.C_alloc ?_ _) | (with_reducible refine Kd.C_drewN ?_ _) | (with_reducible refine Kd.C_drew ?_))); (case side2 => exact (Kd.N_reads' HO_10.out).2.1); (case side3 => repeat (first | exact (Kd.N_reads' HO_7.out).2.2 | (with_reducible refine Kd.C_alloc ?_ _) | (with_reducible refine Kd.C_drewN ?_ _) | (with_reducible refine Kd.C_drew ?_))); (case side4 => exact (Kd.N_reads' HO_7.out).2.1); rintro e w' ⟨rfl, ⟨nd, rfl⟩⟩))
                        go_meet
                        case rel => exact ⟨_, (!t145), (by first | rfl | (simp; done) | (simp [*]; done)), H', ⟨by have := HJ10.out; first | omega | exact Nat.le_refl _⟩, ⟨by (with_reducible repeat (first | apply Kd.N_alloc | apply Kd.N_drewN | apply Kd.N_drew)); exact Kd.N_mono HO_7.out (fun _ hk => trivial)⟩, ⟨by repeat (first | (with_reducible first | exact HB.out | apply below_alloc | apply pw_below_drewN | apply below_drew1) | exact HB.out)⟩⟩
                      · replace c46 := Bool.eq_false_iff.mpr c46
                        subst c46
                        have H1 : (ramekinlaw5_RsBounds.j1 kj10 t126 a2 t131 false) = some r := by rw [if_neg (show ¬ (false = true) by decide)] at H; exact H
                        clear H
                        have H := H1
                        clear H1
                        have H' := Aside0.mk H
                        clear H
                        obtain ⟨Ao50, co50, eo50⟩ := Kd.R_slice HO_8.out
                        subst eo50
                        go_wp2
                        go_meet
                        case rel => exact ⟨_, (false), (by first | rfl | (simp; done) | (simp [*]; done)), H', ⟨by have := HJ10.out; first | omega | exact Nat.le_refl _⟩, ⟨by (with_reducible repeat (first | apply Kd.N_alloc | apply Kd.N_drewN | apply Kd.N_drew)); exact Kd.N_mono HO_7.out (fun _ hk => trivial)⟩, ⟨by repeat (first | (with_reducible first | exact HB.out | apply below_alloc | apply pw_below_drewN | apply below_drew1) | exact HB.out)⟩⟩
                · rw [if_neg c27] at H
                  have c27b0 : decide (2 ≤ t126) = false := decide_eq_false c27
                  clear c27
                  by_cases c51 : (t143 != x12_10) = true
                  · rw [if_pos c51] at H
                    have c51b0 : (t143 != x12_10) = true := c51
                    (try (have c51b1 : decide (t143 = x12_10) = false := by simpa using c51))
                    (try (have c51b2 : (t143 == x12_10) = false := by simpa using c51))
                    (try (have c51b3 : ¬ (t143 = x12_10) := by simpa using c51))
                    clear c51
                    have H' := Aside0.mk H
                    clear H
                    obtain ⟨Ao52, co52, eo52⟩ := Kd.R_slice HO_8.out
                    subst eo52
                    go_wp2
                    go_meet
                    case rel => exact ⟨_, (true), (by first | rfl | (simp; done) | (simp [*]; done)), H', ⟨by have := HJ10.out; first | omega | exact Nat.le_refl _⟩, ⟨by (with_reducible repeat (first | apply Kd.N_alloc | apply Kd.N_drewN | apply Kd.N_drew)); exact Kd.N_mono HO_7.out (fun _ hk => trivial)⟩, ⟨by repeat (first | (with_reducible first | exact HB.out | apply below_alloc | apply pw_below_drewN | apply below_drew1) | exact HB.out)⟩⟩
                  · rw [if_neg c51] at H
                    have c51b0 : (t143 != x12_10) = false := by simpa using c51
                    (try (have c51b1 : decide (t143 = x12_10) = true := by simpa using c51))
                    (try (have c51b2 : (t143 == x12_10) = true := by simpa using c51))
                    clear c51
                    by_cases c53 : x12_10 = true
                    · subst c53
                      have H1 : ((ramekinlaw5_same.f t140 t131).bind fun t146 => (ramekinlaw5_RsBounds.j1 kj10 t126 a2 t131 (!t146))) = some r := by rw [if_pos rfl] at H; exact H
                      clear H
                      have H := H1
                      clear H1
                      replace H := Option.bind_eq_some_iff.mp H
                      obtain ⟨t146, A540, H⟩ := H
                      replace H : (ramekinlaw5_RsBounds.j1 kj10 t126 a2 t131 (!t146)) = some r := H
                      have A54 := Aside0.mk A540
                      clear A540
                      have H' := Aside0.mk H
                      clear H
                      obtain ⟨Ao55, co55, eo55⟩ := Kd.R_slice HO_8.out
                      subst eo55
                      obtain ⟨Ao56, co56, eo56⟩ := Kd.N_slice HO_10.out
                      subst eo56
                      go_wp2_with (first | (go_at_call 23; (with_reducible refine (ramekinlaw5_same.calls _ _ t140 _ _ t131 t146 _ ?side1 ?side2 ?side3 ?side4 A54.out).mono ?_); (case side1 => repeat (first | exact (Kd.N_reads' HO_10.out).2.2 | (with_reducible refine Kd.C_alloc ?_ _) | (with_reducible refine Kd.C_drewN ?_ _) | (with_reducible refine Kd.C_drew ?_))); (case side2 => exact (Kd.N_reads' HO_10.out).2.1); (case side3 => repeat (first | exact (Kd.N_reads' HO_7.out).2.2 | (with_reducible refine Kd.C_alloc ?_ _) | (with_reducible refine Kd.C_drewN ?_ _) | (with_reducible refine Kd.C_drew ?_))); (case side4 => exact (Kd.N_reads' HO_7.out).2.1); rintro e w' ⟨rfl, ⟨nd, rfl⟩⟩))
                      go_meet
                      case rel => exact ⟨_, (!t146), (by first | rfl | (simp; done) | (simp [*]; done)), H', ⟨by have := HJ10.out; first | omega | exact Nat.le_refl _⟩, ⟨by (with_reducible repeat (first | apply Kd.N_alloc | apply Kd.N_drewN | apply Kd.N_drew)); exact Kd.N_mono HO_7.out (fun _ hk => trivial)⟩, ⟨by repeat (first | (with_reducible first | exact HB.out | apply below_alloc | apply pw_below_drewN | apply below_drew1) | exact HB.out)⟩⟩
                    · replace c53 := Bool.eq_false_iff.mpr c53
                      subst c53
                      have H1 : (ramekinlaw5_RsBounds.j1 kj10 t126 a2 t131 false) = some r := by rw [if_neg (show ¬ (false = true) by decide)] at H; exact H
                      clear H
                      have H := H1
                      clear H1
                      have H' := Aside0.mk H
                      clear H
                      obtain ⟨Ao57, co57, eo57⟩ := Kd.R_slice HO_8.out
                      subst eo57
                      go_wp2
                      go_meet
                      case rel => exact ⟨_, (false), (by first | rfl | (simp; done) | (simp [*]; done)), H', ⟨by have := HJ10.out; first | omega | exact Nat.le_refl _⟩, ⟨by (with_reducible repeat (first | apply Kd.N_alloc | apply Kd.N_drewN | apply Kd.N_drew)); exact Kd.N_mono HO_7.out (fun _ hk => trivial)⟩, ⟨by repeat (first | (with_reducible first | exact HB.out | apply below_alloc | apply pw_below_drewN | apply below_drew1) | exact HB.out)⟩⟩
          · rw [if_neg c22] at H
            have c22b0 : decide (0 < (t134.length : Int)) = false := decide_eq_false c22
            have c22b1 : decide (0 < t134.length) = false := decide_eq_false (by omega)
            clear c22
            (first | rw [c22b0] | (simp only [i64_w, i32_w]; rw [c22b0]) | skip)
            by_cases c58 : t126 ≥ 2
            · rw [if_pos c58] at H
              have c58b0 : decide (2 ≤ t126) = true := decide_eq_true c58
              clear c58
              by_cases c59 : t126 ≤ 14
              · rw [if_pos c59] at H
                have c59b0 : decide (t126 ≤ 14) = true := decide_eq_true c59
                clear c59
                by_cases c60 : (t134.length : Int) = t127
                · rw [if_pos c60] at H
                  have c60b0 : ((t134.length : Int) == t127) = true := beq_iff_eq.mpr c60
                  have c60b1 : ((t134.length : Int) != t127) = false := bne_eq_false_iff_eq.mpr c60
                  clear c60
                  by_cases c61 : (t135.length : Int) = t127
                  · rw [if_pos c61] at H
                    have c61b0 : ((t135.length : Int) == t127) = true := beq_iff_eq.mpr c61
                    have c61b1 : ((t135.length : Int) != t127) = false := bne_eq_false_iff_eq.mpr c61
                    clear c61
                    by_cases c62 : (t143 != x12_10) = true
                    · rw [if_pos c62] at H
                      have c62b0 : (t143 != x12_10) = true := c62
                      (try (have c62b1 : decide (t143 = x12_10) = false := by simpa using c62))
                      (try (have c62b2 : (t143 == x12_10) = false := by simpa using c62))
                      (try (have c62b3 : ¬ (t143 = x12_10) := by simpa using c62))
                      clear c62
                      have H' := Aside0.mk H
                      clear H
                      obtain ⟨Ao63, co63, eo63⟩ := Kd.R_slice HO_8.out
                      subst eo63
                      obtain ⟨Ao64, co64, eo64⟩ := Kd.R_slice HO_9.out
                      subst eo64
                      go_wp2
                      go_meet
                      case rel => exact ⟨_, (true), (by first | rfl | (simp; done) | (simp [*]; done)), H', ⟨by have := HJ10.out; first | omega | exact Nat.le_refl _⟩, ⟨by (with_reducible repeat (first | apply Kd.N_alloc | apply Kd.N_drewN | apply Kd.N_drew)); exact Kd.N_mono HO_7.out (fun _ hk => trivial)⟩, ⟨by repeat (first | (with_reducible first | exact HB.out | apply below_alloc | apply pw_below_drewN | apply below_drew1) | exact HB.out)⟩⟩
                    · rw [if_neg c62] at H
                      have c62b0 : (t143 != x12_10) = false := by simpa using c62
                      (try (have c62b1 : decide (t143 = x12_10) = true := by simpa using c62))
                      (try (have c62b2 : (t143 == x12_10) = true := by simpa using c62))
                      clear c62
                      by_cases c65 : x12_10 = true
                      · subst c65
                        have H1 : ((ramekinlaw5_same.f t140 t131).bind fun t147 => (ramekinlaw5_RsBounds.j1 kj10 t126 a2 t131 (!t147))) = some r := by rw [if_pos rfl] at H; exact H
                        clear H
                        have H := H1
                        clear H1
                        replace H := Option.bind_eq_some_iff.mp H
                        obtain ⟨t147, A660, H⟩ := H
                        replace H : (ramekinlaw5_RsBounds.j1 kj10 t126 a2 t131 (!t147)) = some r := H
                        have A66 := Aside0.mk A660
                        clear A660
                        have H' := Aside0.mk H
                        clear H
                        obtain ⟨Ao67, co67, eo67⟩ := Kd.R_slice HO_8.out
                        subst eo67
                        obtain ⟨Ao68, co68, eo68⟩ := Kd.R_slice HO_9.out
                        subst eo68
                        obtain ⟨Ao69, co69, eo69⟩ := Kd.N_slice HO_10.out
                        subst eo69
                        go_wp2_with (first | (go_at_call 23; (with_reducible refine (ramekinlaw5_same.calls _ _ t140 _ _ t131 t147 _ ?side1 ?side2 ?side3 ?side4 A66.out).mono ?_); (case side1 => repeat (first | exact (Kd.N_reads' HO_10.out).2.2 | (with_reducible refine Kd.C_alloc ?_ _) | (with_reducible refine Kd.C_drewN ?_ _) | (with_reducible refine Kd.C_drew ?_))); (case side2 => exact (Kd.N_reads' HO_10.out).2.1); (case side3 => repeat (first | exact (Kd.N_reads' HO_7.out).2.2 | (with_reducible refine Kd.C_alloc ?_ _) | (with_reducible refine Kd.C_drewN ?_ _) | (with_reducible refine Kd.C_drew ?_))); (case side4 => exact (Kd.N_reads' HO_7.out).2.1); rintro e w' ⟨rfl, ⟨nd, rfl⟩⟩))
                        go_meet
                        case rel => exact ⟨_, (!t147), (by first | rfl | (simp; done) | (simp [*]; done)), H', ⟨by have := HJ10.out; first | omega | exact Nat.le_refl _⟩, ⟨by (with_reducible repeat (first | apply Kd.N_alloc | apply Kd.N_drewN | apply Kd.N_drew)); exact Kd.N_mono HO_7.out (fun _ hk => trivial)⟩, ⟨by repeat (first | (with_reducible first | exact HB.out | apply below_alloc | apply pw_below_drewN | apply below_drew1) | exact HB.out)⟩⟩
                      · replace c65 := Bool.eq_false_iff.mpr c65
                        subst c65
                        have H1 : (ramekinlaw5_RsBounds.j1 kj10 t126 a2 t131 false) = some r := by rw [if_neg (show ¬ (false = true) by decide)] at H; exact H
                        clear H
                        have H := H1
                        clear H1
                        have H' := Aside0.mk H
                        clear H
                        obtain ⟨Ao70, co70, eo70⟩ := Kd.R_slice HO_8.out
                        subst eo70
                        obtain ⟨Ao71, co71, eo71⟩ := Kd.R_slice HO_9.out
                        subst eo71
                        go_wp2
                        go_meet
                        case rel => exact ⟨_, (false), (by first | rfl | (simp; done) | (simp [*]; done)), H', ⟨by have := HJ10.out; first | omega | exact Nat.le_refl _⟩, ⟨by (with_reducible repeat (first | apply Kd.N_alloc | apply Kd.N_drewN | apply Kd.N_drew)); exact Kd.N_mono HO_7.out (fun _ hk => trivial)⟩, ⟨by repeat (first | (with_reducible first | exact HB.out | apply below_alloc | apply pw_below_drewN | apply below_drew1) | exact HB.out)⟩⟩
                  · rw [if_neg c61] at H
                    have c61b0 : ((t135.length : Int) == t127) = false := beq_eq_false_iff_ne.mpr c61
                    have c61b1 : ((t135.length : Int) != t127) = true := bne_iff_ne.mpr c61
                    have H' := Aside0.mk H
                    clear H
                    obtain ⟨Ao72, co72, eo72⟩ := Kd.R_slice HO_8.out
                    subst eo72
                    obtain ⟨Ao73, co73, eo73⟩ := Kd.R_slice HO_9.out
                    subst eo73
                    go_wp2
                    go_meet
                    case rel => exact ⟨_, (true), (by first | rfl | (simp; done) | (simp [*]; done)), H', ⟨by have := HJ10.out; first | omega | exact Nat.le_refl _⟩, ⟨by (with_reducible repeat (first | apply Kd.N_alloc | apply Kd.N_drewN | apply Kd.N_drew)); exact Kd.N_mono HO_7.out (fun _ hk => trivial)⟩, ⟨by repeat (first | (with_reducible first | exact HB.out | apply below_alloc | apply pw_below_drewN | apply below_drew1) | exact HB.out)⟩⟩
                · rw [if_neg c60] at H
                  have c60b0 : ((t134.length : Int) == t127) = false := beq_eq_false_iff_ne.mpr c60
                  have c60b1 : ((t134.length : Int) != t127) = true := bne_iff_ne.mpr c60
                  have H' := Aside0.mk H
                  clear H
                  obtain ⟨Ao74, co74, eo74⟩ := Kd.R_slice HO_8.out
                  subst eo74
                  go_wp2
                  go_meet
                  case rel => exact ⟨_, (true), (by first | rfl | (simp; done) | (simp [*]; done)), H', ⟨by have := HJ10.out; first | omega | exact Nat.le_refl _⟩, ⟨by (with_reducible repeat (first | apply Kd.N_alloc | apply Kd.N_drewN | apply Kd.N_drew)); exact Kd.N_mono HO_7.out (fun _ hk => trivial)⟩, ⟨by repeat (first | (with_reducible first | exact HB.out | apply below_alloc | apply pw_below_drewN | apply below_drew1) | exact HB.out)⟩⟩
              · rw [if_neg c59] at H
                have c59b0 : decide (t126 ≤ 14) = false := decide_eq_false c59
                clear c59
                by_cases c75 : (t143 != x12_10) = true
                · rw [if_pos c75] at H
                  have c75b0 : (t143 != x12_10) = true := c75
                  (try (have c75b1 : decide (t143 = x12_10) = false := by simpa using c75))
                  (try (have c75b2 : (t143 == x12_10) = false := by simpa using c75))
                  (try (have c75b3 : ¬ (t143 = x12_10) := by simpa using c75))
                  clear c75
                  have H' := Aside0.mk H
                  clear H
                  obtain ⟨Ao76, co76, eo76⟩ := Kd.R_slice HO_8.out
                  subst eo76
                  go_wp2
                  go_meet
                  case rel => exact ⟨_, (true), (by first | rfl | (simp; done) | (simp [*]; done)), H', ⟨by have := HJ10.out; first | omega | exact Nat.le_refl _⟩, ⟨by (with_reducible repeat (first | apply Kd.N_alloc | apply Kd.N_drewN | apply Kd.N_drew)); exact Kd.N_mono HO_7.out (fun _ hk => trivial)⟩, ⟨by repeat (first | (with_reducible first | exact HB.out | apply below_alloc | apply pw_below_drewN | apply below_drew1) | exact HB.out)⟩⟩
                · rw [if_neg c75] at H
                  have c75b0 : (t143 != x12_10) = false := by simpa using c75
                  (try (have c75b1 : decide (t143 = x12_10) = true := by simpa using c75))
                  (try (have c75b2 : (t143 == x12_10) = true := by simpa using c75))
                  clear c75
                  by_cases c77 : x12_10 = true
                  · subst c77
                    have H1 : ((ramekinlaw5_same.f t140 t131).bind fun t148 => (ramekinlaw5_RsBounds.j1 kj10 t126 a2 t131 (!t148))) = some r := by rw [if_pos rfl] at H; exact H
                    clear H
                    have H := H1
                    clear H1
                    replace H := Option.bind_eq_some_iff.mp H
                    obtain ⟨t148, A780, H⟩ := H
                    replace H : (ramekinlaw5_RsBounds.j1 kj10 t126 a2 t131 (!t148)) = some r := H
                    have A78 := Aside0.mk A780
                    clear A780
                    have H' := Aside0.mk H
                    clear H
                    obtain ⟨Ao79, co79, eo79⟩ := Kd.R_slice HO_8.out
                    subst eo79
                    obtain ⟨Ao80, co80, eo80⟩ := Kd.N_slice HO_10.out
                    subst eo80
                    go_wp2_with (first | (go_at_call 23; (with_reducible refine (ramekinlaw5_same.calls _ _ t140 _ _ t131 t148 _ ?side1 ?side2 ?side3 ?side4 A78.out).mono ?_); (case side1 => repeat (first | exact (Kd.N_reads' HO_10.out).2.2 | (with_reducible refine Kd.C_alloc ?_ _) | (with_reducible refine Kd.C_drewN ?_ _) | (with_reducible refine Kd.C_drew ?_))); (case side2 => exact (Kd.N_reads' HO_10.out).2.1); (case side3 => repeat (first | exact (Kd.N_reads' HO_7.out).2.2 | (with_reducible refine Kd.C_alloc ?_ _) | (with_reducible refine Kd.C_drewN ?_ _) | (with_reducible refine Kd.C_drew ?_))); (case side4 => exact (Kd.N_reads' HO_7.out).2.1); rintro e w' ⟨rfl, ⟨nd, rfl⟩⟩))
                    go_meet
                    case rel => exact ⟨_, (!t148), (by first | rfl | (simp; done) | (simp [*]; done)), H', ⟨by have := HJ10.out; first | omega | exact Nat.le_refl _⟩, ⟨by (with_reducible repeat (first | apply Kd.N_alloc | apply Kd.N_drewN | apply Kd.N_drew)); exact Kd.N_mono HO_7.out (fun _ hk => trivial)⟩, ⟨by repeat (first | (with_reducible first | exact HB.out | apply below_alloc | apply pw_below_drewN | apply below_drew1) | exact HB.out)⟩⟩
                  · replace c77 := Bool.eq_false_iff.mpr c77
                    subst c77
                    have H1 : (ramekinlaw5_RsBounds.j1 kj10 t126 a2 t131 false) = some r := by rw [if_neg (show ¬ (false = true) by decide)] at H; exact H
                    clear H
                    have H := H1
                    clear H1
                    have H' := Aside0.mk H
                    clear H
                    obtain ⟨Ao81, co81, eo81⟩ := Kd.R_slice HO_8.out
                    subst eo81
                    go_wp2
                    go_meet
                    case rel => exact ⟨_, (false), (by first | rfl | (simp; done) | (simp [*]; done)), H', ⟨by have := HJ10.out; first | omega | exact Nat.le_refl _⟩, ⟨by (with_reducible repeat (first | apply Kd.N_alloc | apply Kd.N_drewN | apply Kd.N_drew)); exact Kd.N_mono HO_7.out (fun _ hk => trivial)⟩, ⟨by repeat (first | (with_reducible first | exact HB.out | apply below_alloc | apply pw_below_drewN | apply below_drew1) | exact HB.out)⟩⟩
            · rw [if_neg c58] at H
              have c58b0 : decide (2 ≤ t126) = false := decide_eq_false c58
              clear c58
              by_cases c82 : (t143 != x12_10) = true
              · rw [if_pos c82] at H
                have c82b0 : (t143 != x12_10) = true := c82
                (try (have c82b1 : decide (t143 = x12_10) = false := by simpa using c82))
                (try (have c82b2 : (t143 == x12_10) = false := by simpa using c82))
                (try (have c82b3 : ¬ (t143 = x12_10) := by simpa using c82))
                clear c82
                have H' := Aside0.mk H
                clear H
                obtain ⟨Ao83, co83, eo83⟩ := Kd.R_slice HO_8.out
                subst eo83
                go_wp2
                go_meet
                case rel => exact ⟨_, (true), (by first | rfl | (simp; done) | (simp [*]; done)), H', ⟨by have := HJ10.out; first | omega | exact Nat.le_refl _⟩, ⟨by (with_reducible repeat (first | apply Kd.N_alloc | apply Kd.N_drewN | apply Kd.N_drew)); exact Kd.N_mono HO_7.out (fun _ hk => trivial)⟩, ⟨by repeat (first | (with_reducible first | exact HB.out | apply below_alloc | apply pw_below_drewN | apply below_drew1) | exact HB.out)⟩⟩
              · rw [if_neg c82] at H
                have c82b0 : (t143 != x12_10) = false := by simpa using c82
                (try (have c82b1 : decide (t143 = x12_10) = true := by simpa using c82))
                (try (have c82b2 : (t143 == x12_10) = true := by simpa using c82))
                clear c82
                by_cases c84 : x12_10 = true
                · subst c84
                  have H1 : ((ramekinlaw5_same.f t140 t131).bind fun t149 => (ramekinlaw5_RsBounds.j1 kj10 t126 a2 t131 (!t149))) = some r := by rw [if_pos rfl] at H; exact H
                  clear H
                  have H := H1
                  clear H1
                  replace H := Option.bind_eq_some_iff.mp H
                  obtain ⟨t149, A850, H⟩ := H
                  replace H : (ramekinlaw5_RsBounds.j1 kj10 t126 a2 t131 (!t149)) = some r := H
                  have A85 := Aside0.mk A850
                  clear A850
                  have H' := Aside0.mk H
                  clear H
                  obtain ⟨Ao86, co86, eo86⟩ := Kd.R_slice HO_8.out
                  subst eo86
                  obtain ⟨Ao87, co87, eo87⟩ := Kd.N_slice HO_10.out
                  subst eo87
                  go_wp2_with (first | (go_at_call 23; (with_reducible refine (ramekinlaw5_same.calls _ _ t140 _ _ t131 t149 _ ?side1 ?side2 ?side3 ?side4 A85.out).mono ?_); (case side1 => repeat (first | exact (Kd.N_reads' HO_10.out).2.2 | (with_reducible refine Kd.C_alloc ?_ _) | (with_reducible refine Kd.C_drewN ?_ _) | (with_reducible refine Kd.C_drew ?_))); (case side2 => exact (Kd.N_reads' HO_10.out).2.1); (case side3 => repeat (first | exact (Kd.N_reads' HO_7.out).2.2 | (with_reducible refine Kd.C_alloc ?_ _) | (with_reducible refine Kd.C_drewN ?_ _) | (with_reducible refine Kd.C_drew ?_))); (case side4 => exact (Kd.N_reads' HO_7.out).2.1); rintro e w' ⟨rfl, ⟨nd, rfl⟩⟩))
                  go_meet
                  case rel => exact ⟨_, (!t149), (by first | rfl | (simp; done) | (simp [*]; done)), H', ⟨by have := HJ10.out; first | omega | exact Nat.le_refl _⟩, ⟨by (with_reducible repeat (first | apply Kd.N_alloc | apply Kd.N_drewN | apply Kd.N_drew)); exact Kd.N_mono HO_7.out (fun _ hk => trivial)⟩, ⟨by repeat (first | (with_reducible first | exact HB.out | apply below_alloc | apply pw_below_drewN | apply below_drew1) | exact HB.out)⟩⟩
                · replace c84 := Bool.eq_false_iff.mpr c84
                  subst c84
                  have H1 : (ramekinlaw5_RsBounds.j1 kj10 t126 a2 t131 false) = some r := by rw [if_neg (show ¬ (false = true) by decide)] at H; exact H
                  clear H
                  have H := H1
                  clear H1
                  have H' := Aside0.mk H
                  clear H
                  obtain ⟨Ao88, co88, eo88⟩ := Kd.R_slice HO_8.out
                  subst eo88
                  go_wp2
                  go_meet
                  case rel => exact ⟨_, (false), (by first | rfl | (simp; done) | (simp [*]; done)), H', ⟨by have := HJ10.out; first | omega | exact Nat.le_refl _⟩, ⟨by (with_reducible repeat (first | apply Kd.N_alloc | apply Kd.N_drewN | apply Kd.N_drew)); exact Kd.N_mono HO_7.out (fun _ hk => trivial)⟩, ⟨by repeat (first | (with_reducible first | exact HB.out | apply below_alloc | apply pw_below_drewN | apply below_drew1) | exact HB.out)⟩⟩
        case rest =>
          clear HC21
          try clear c1
          try clear c2
          try clear p2
          try clear c3
          try clear c4
          try clear c5
          try clear c6
          try clear c7
          try clear c8
          try clear c10
          try clear c11
          try clear c12
          try clear c13
          try clear c14
          try clear c20
          try clear c20b0
          try clear c22
          try clear c22b0
          try clear c22b1
          try clear c23
          try clear c23b0
          try clear c25
          try clear c25b0
          try clear c27
          try clear c27b0
          try clear c28
          try clear c28b0
          try clear c29
          try clear c29b0
          try clear c29b1
          try clear c30
          try clear c30b0
          try clear c30b1
          try clear c31
          try clear c31b0
          try clear c31b1
          try clear c31b2
          try clear c34
          try clear c44
          try clear c44b0
          try clear c44b1
          try clear c44b2
          try clear c46
          try clear c51
          try clear c51b0
          try clear c51b1
          try clear c51b2
          try clear c53
          try clear c58
          try clear c58b0
          try clear c59
          try clear c59b0
          try clear c60
          try clear c60b0
          try clear c60b1
          try clear c61
          try clear c61b0
          try clear c61b1
          try clear c62
          try clear c62b0
          try clear c62b1
          try clear c62b2
          try clear c65
          try clear c75
          try clear c75b0
          try clear c75b1
          try clear c75b2
          try clear c77
          try clear c82
          try clear c82b0
          try clear c82b1
          try clear c82b2
          try clear c84
          try clear p2
          obtain ⟨kq, x88_20, rfl, HA, HJ20, HO_7, HB⟩ := hcut
          cases kq with
          | zero => exact absurd HA.out (by simp [ramekinlaw5_RsBounds.j1])
          | succ kj20 =>
            have H := HA.out
            clear HA
            simp only [ramekinlaw5_RsBounds.j1] at H
            by_cases c89 : x88_20 = true
            · subst c89
              have H1 : (some false) = some r := by rw [if_pos rfl] at H; exact H
              clear H
              have H := H1
              clear H1
              obtain rfl := Option.some.inj H
              go_wp2
              go_ret
              exact ⟨by first | rfl | (simp [errW_none, errW_some] <;> rfl) | (simp [*, errW_none, errW_some] <;> rfl), by repeat (first | (with_reducible first | exact HB.out | apply below_alloc | apply pw_below_drewN | apply below_drew1) | exact HB.out)⟩
            · replace c89 := Bool.eq_false_iff.mpr c89
              subst c89
              have H1 : (if t126 < 4 then (ramekinlaw5_RsBounds.j2 kj20 t126 a2 t131 true) else (ramekinlaw5_RsBounds.j2 kj20 t126 a2 t131 (decide (t126 > 16)))) = some r := by rw [if_neg (show ¬ (false = true) by decide)] at H; exact H
              clear H
              have H := H1
              clear H1
              have HC90 := Aside0.mk H
              clear H
              go_upto_region 10 with (fail)
              go_cut [94] (fun v94 wc => ∃ (kq : Nat) (x94_89 : Bool), v94 = .bool x94_89 ∧ Aside0 (ramekinlaw5_RsBounds.j2 kq t126 a2 t131 x94_89 = some r) ∧ Aside0 (kq ≤ kj20) ∧ Aside0 (Kd.N (Kd.slice 5 (Kd.int .u8)) 22 wc w.heap.size (fun _ => True) (.slice Ao17 t131.length co17) t131) ∧ Aside0 (Below w.heap.size w wc))
              case first =>
                have H := HC90.out
                clear HC90
                by_cases c91 : t126 < 4
                · rw [if_pos c91] at H
                  have c91b0 : decide (t126 < 4) = true := decide_eq_true c91
                  clear c91
                  (first | rw [c91b0] | (simp only [i64_w, i32_w]; rw [c91b0]) | skip)
                  have H' := Aside0.mk H
                  clear H
                  go_wp2
                  go_meet
                  case rel => exact ⟨_, (true), (by first | rfl | (simp; done) | (simp [*]; done)), H', ⟨by have := HJ10.out; have := HJ20.out; first | omega | exact Nat.le_refl _⟩, ⟨by (with_reducible repeat (first | apply Kd.N_alloc | apply Kd.N_drewN | apply Kd.N_drew)); exact HO_7.out⟩, ⟨by repeat (first | (with_reducible first | exact HB.out | apply below_alloc | apply pw_below_drewN | apply below_drew1) | exact HB.out)⟩⟩
                · rw [if_neg c91] at H
                  have c91b0 : decide (t126 < 4) = false := decide_eq_false c91
                  clear c91
                  (first | rw [c91b0] | (simp only [i64_w, i32_w]; rw [c91b0]) | skip)
                  have H' := Aside0.mk H
                  clear H
                  go_wp2
                  go_meet
                  case rel => exact ⟨_, (decide (t126 > 16)), (by first | rfl | (simp; done) | (simp [*]; done)), H', ⟨by have := HJ10.out; have := HJ20.out; first | omega | exact Nat.le_refl _⟩, ⟨by (with_reducible repeat (first | apply Kd.N_alloc | apply Kd.N_drewN | apply Kd.N_drew)); exact HO_7.out⟩, ⟨by repeat (first | (with_reducible first | exact HB.out | apply below_alloc | apply pw_below_drewN | apply below_drew1) | exact HB.out)⟩⟩
              case rest =>
                clear HC90
                try clear c1
                try clear c2
                try clear p2
                try clear c3
                try clear c4
                try clear c5
                try clear c6
                try clear c7
                try clear c8
                try clear c9
                try clear c10
                try clear c11
                try clear c12
                try clear c13
                try clear c14
                try clear c20
                try clear c20b0
                try clear c22
                try clear c22b0
                try clear c22b1
                try clear c23
                try clear c23b0
                try clear c25
                try clear c25b0
                try clear c27
                try clear c27b0
                try clear c28
                try clear c28b0
                try clear c29
                try clear c29b0
                try clear c29b1
                try clear c30
                try clear c30b0
                try clear c30b1
                try clear c31
                try clear c31b0
                try clear c31b1
                try clear c31b2
                try clear c34
                try clear c44
                try clear c44b0
                try clear c44b1
                try clear c44b2
                try clear c46
                try clear c51
                try clear c51b0
                try clear c51b1
                try clear c51b2
                try clear c53
                try clear c58
                try clear c58b0
                try clear c59
                try clear c59b0
                try clear c60
                try clear c60b0
                try clear c60b1
                try clear c61
                try clear c61b0
                try clear c61b1
                try clear c62
                try clear c62b0
                try clear c62b1
                try clear c62b2
                try clear c65
                try clear c75
                try clear c75b0
                try clear c75b1
                try clear c75b2
                try clear c77
                try clear c82
                try clear c82b0
                try clear c82b1
                try clear c82b2
                try clear c84
                try clear c89
                try clear c91
                try clear c91b0
                try clear p2
                obtain ⟨kq, x94_89, rfl, HA, HJ89, HO_7, HB⟩ := hcut
                cases kq with
                | zero => exact absurd HA.out (by simp [ramekinlaw5_RsBounds.j2])
                | succ kj89 =>
                  have H := HA.out
                  clear HA
                  simp only [ramekinlaw5_RsBounds.j2] at H
                  by_cases c92 : x94_89 = true
                  · subst c92
                    have H1 : ((rs_Check.f t131).bind fun t150 => (some (!t150))) = some r := by rw [if_pos rfl] at H; exact H
                    clear H
                    have H := H1
                    clear H1
                    replace H := Option.bind_eq_some_iff.mp H
                    obtain ⟨t150, A930, H⟩ := H
                    replace H : (some (!t150)) = some r := H
                    have A93 := Aside0.mk A930
                    clear A930
                    obtain rfl := Option.some.inj H
                    go_wp2_with (first | ((with_reducible refine gate_callee (f := 19) rfl ?_); refine goesL_ (some 96) rfl rfl Try.func19 (by kernel_rfl) rfl #[.slice Ao17 t131.length co17] rfl (by (try simp only [List.map_toArray, List.map_cons, List.map_nil]); first | done | rfl | (simp only [List.length_drop, List.length_take]; rfl)) ?_; (with_reducible refine (rs_Check.calls _ _ t131 t150 _ ?side1 ?side2 A93.out).mono ?_); (case side1 => repeat (first | exact (Kd.N_reads' HO_7.out).2.2 | (with_reducible refine Kd.C_alloc ?_ _) | (with_reducible refine Kd.C_drewN ?_ _) | (with_reducible refine Kd.C_drew ?_))); (case side2 => exact (Kd.N_reads' HO_7.out).2.1); rintro e w94 ⟨rfl, hb⟩; refine ⟨_, rfl, ?_⟩; have n0_ := Aside0.mk (Kd.N_below (by (with_reducible repeat (first | apply Kd.N_alloc | apply Kd.N_drewN | apply Kd.N_drew)); exact HO_7.out) hb); have n1_ := Aside0.mk (below_step (by repeat (first | (with_reducible first | exact HB.out | apply below_alloc | apply pw_below_drewN | apply below_drew1) | exact HB.out)) hb); clear HO_7; clear HB; have HO_7 := n0_; have HB := n1_; clear n0_ n1_; (try clear hb); (try clear hb2); (try clear hk); (try clear hi)))
                    go_ret
                    exact ⟨by first | rfl | (simp [errW_none, errW_some] <;> rfl) | (simp [*, errW_none, errW_some] <;> rfl), by repeat (first | (with_reducible first | exact HB.out | apply below_alloc | apply pw_below_drewN | apply below_drew1) | exact HB.out)⟩
                  · replace c92 := Bool.eq_false_iff.mpr c92
                    subst c92
                    have H1 : ((ramekinlaw5_within.f a2 t126).bind fun t151 => ((some (([] : List Int) : List Int)).bind fun y152 => (if 0 ≤ t151 then (if t151 < (t131.length : Int) then (if y152.length + (rd_L2 t131 t151).length < 140737488355328 then ((some (y152 ++ (rd_L2 t131 t151) : List Int)).bind fun y156 => (if y156.length < 140737488355328 then ((some (t131.set (t151 : Int).toNat (y156 ++ [7]) : List (List Int))).bind fun y162 => ((rs_Fix.f y162 ([] : List Int)).bind fun bt163 => ((rs_Fix.f y162 (([t151] : List Int))).bind fun bt170 => (if bt163.2 = true then (some false) else (if bt170.2 = true then ((rs_Check.f y162).bind fun t174 => (some (!t174))) else (some false)))))) else (none))) else (none)) else (none)) else (none)))) = some r := by rw [if_neg (show ¬ (false = true) by decide)] at H; exact H
                    clear H
                    have H := H1
                    clear H1
                    replace H := Option.bind_eq_some_iff.mp H
                    obtain ⟨t151, A950, H⟩ := H
                    replace H : ((some (([] : List Int) : List Int)).bind fun y152 => (if 0 ≤ t151 then (if t151 < (t131.length : Int) then (if y152.length + (rd_L2 t131 t151).length < 140737488355328 then ((some (y152 ++ (rd_L2 t131 t151) : List Int)).bind fun y156 => (if y156.length < 140737488355328 then ((some (t131.set (t151 : Int).toNat (y156 ++ [7]) : List (List Int))).bind fun y162 => ((rs_Fix.f y162 ([] : List Int)).bind fun bt163 => ((rs_Fix.f y162 (([t151] : List Int))).bind fun bt170 => (if bt163.2 = true then (some false) else (if bt170.2 = true then ((rs_Check.f y162).bind fun t174 => (some (!t174))) else (some false)))))) else (none))) else (none)) else (none)) else (none))) = some r := H
                    have A95 := Aside0.mk A950
                    clear A950
                    obtain ⟨y152, hy152⟩ : ∃ y_ : List Int, y_ = (([] : List Int)) := ⟨_, rfl⟩
                    replace H : (if 0 ≤ t151 then (if t151 < (t131.length : Int) then (if y152.length + (rd_L2 t131 t151).length < 140737488355328 then ((some (y152 ++ (rd_L2 t131 t151) : List Int)).bind fun y156 => (if y156.length < 140737488355328 then ((some (t131.set (t151 : Int).toNat (y156 ++ [7]) : List (List Int))).bind fun y162 => ((rs_Fix.f y162 ([] : List Int)).bind fun bt163 => ((rs_Fix.f y162 (([t151] : List Int))).bind fun bt170 => (if bt163.2 = true then (some false) else (if bt170.2 = true then ((rs_Check.f y162).bind fun t174 => (some (!t174))) else (some false)))))) else (none))) else (none)) else (none)) else (none)) = some r := by first | (rw [hy152]; with_reducible exact H) | (have H2_ := (Option.bind_some _ _).symm.trans H; rw [hy152]; with_reducible exact H2_) | (have H2_ := (Option.bind_some _ _).symm.trans H; with_reducible exact H2_) | with_reducible exact H | (rw [hy152]; exact H) | exact H
                    have Ny152 := Aside0.mk hy152
                    clear hy152
                    by_cases c96 : 0 ≤ t151
                    · rw [if_pos c96] at H
                      have c96b0 : decide (0 ≤ t151) = true := decide_eq_true c96
                      clear c96
                      by_cases c97 : t151 < (t131.length : Int)
                      · rw [if_pos c97] at H
                        have c97b0 : decide (t151 < (t131.length : Int)) = true := decide_eq_true c97
                        clear c97
                        by_cases c98 : y152.length + (rd_L2 t131 t151).length < 140737488355328
                        · rw [if_pos c98] at H
                          have LMc98 := Aside0.mk c98
                          clear c98
                          obtain ⟨y156, hy156⟩ : ∃ y_ : List Int, y_ = (y152 ++ (rd_L2 t131 t151)) := ⟨_, rfl⟩
                          replace H : (if y156.length < 140737488355328 then ((some (t131.set (t151 : Int).toNat (y156 ++ [7]) : List (List Int))).bind fun y162 => ((rs_Fix.f y162 ([] : List Int)).bind fun bt163 => ((rs_Fix.f y162 (([t151] : List Int))).bind fun bt170 => (if bt163.2 = true then (some false) else (if bt170.2 = true then ((rs_Check.f y162).bind fun t174 => (some (!t174))) else (some false)))))) else (none)) = some r := by first | (rw [hy156]; with_reducible exact H) | (have H2_ := (Option.bind_some _ _).symm.trans H; rw [hy156]; with_reducible exact H2_) | (have H2_ := (Option.bind_some _ _).symm.trans H; with_reducible exact H2_) | with_reducible exact H | (rw [hy156]; exact H) | exact H
                          have Ny156 := Aside0.mk hy156
                          clear hy156
                          by_cases c99 : y156.length < 140737488355328
                          · rw [if_pos c99] at H
                            have LMc99 := Aside0.mk c99
                            clear c99
                            obtain ⟨y159, hy159⟩ : ∃ y_ : List Int, y_ = (y156 ++ [7]) := ⟨_, rfl⟩
                            replace H : ((some (t131.set (t151 : Int).toNat y159 : List (List Int))).bind fun y162 => ((rs_Fix.f y162 ([] : List Int)).bind fun bt163 => ((rs_Fix.f y162 (([t151] : List Int))).bind fun bt170 => (if bt163.2 = true then (some false) else (if bt170.2 = true then ((rs_Check.f y162).bind fun t174 => (some (!t174))) else (some false)))))) = some r := by first | (rw [hy159]; with_reducible exact H) | (have H2_ := (Option.bind_some _ _).symm.trans H; rw [hy159]; with_reducible exact H2_) | (have H2_ := (Option.bind_some _ _).symm.trans H; with_reducible exact H2_) | with_reducible exact H | (rw [hy159]; exact H) | exact H
                            have Ny159 := Aside0.mk hy159
                            clear hy159
                            obtain ⟨y162, hy162⟩ : ∃ y_ : List (List Int), y_ = (t131.set (t151 : Int).toNat y159) := ⟨_, rfl⟩
                            replace H : ((rs_Fix.f y162 ([] : List Int)).bind fun bt163 => ((rs_Fix.f y162 (([t151] : List Int))).bind fun bt170 => (if bt163.2 = true then (some false) else (if bt170.2 = true then ((rs_Check.f y162).bind fun t174 => (some (!t174))) else (some false))))) = some r := by first | (rw [hy162]; with_reducible exact H) | (have H2_ := (Option.bind_some _ _).symm.trans H; rw [hy162]; with_reducible exact H2_) | (have H2_ := (Option.bind_some _ _).symm.trans H; with_reducible exact H2_) | with_reducible exact H | (rw [hy162]; exact H) | exact H
                            have Ny162 := Aside0.mk hy162
                            clear hy162
                            replace H := Option.bind_eq_some_iff.mp H
                            obtain ⟨⟨t163, t166⟩, A1010, H⟩ := H
                            replace H : ((rs_Fix.f y162 (([t151] : List Int))).bind fun bt170 => (if t166 = true then (some false) else (if bt170.2 = true then ((rs_Check.f y162).bind fun t174 => (some (!t174))) else (some false)))) = some r := H
                            have A101 := Aside0.mk A1010
                            clear A1010
                            obtain ⟨y167, hy167⟩ : ∃ y_ : List Int, y_ = (([t151] : List Int)) := ⟨_, rfl⟩
                            replace H : ((rs_Fix.f y162 y167).bind fun bt170 => (if t166 = true then (some false) else (if bt170.2 = true then ((rs_Check.f y162).bind fun t174 => (some (!t174))) else (some false)))) = some r := by first | (rw [hy167]; with_reducible exact H) | (have H2_ := (Option.bind_some _ _).symm.trans H; rw [hy167]; with_reducible exact H2_) | (have H2_ := (Option.bind_some _ _).symm.trans H; with_reducible exact H2_) | with_reducible exact H | (rw [hy167]; exact H) | exact H
                            have Ny167 := Aside0.mk hy167
                            clear hy167
                            replace H := Option.bind_eq_some_iff.mp H
                            obtain ⟨⟨t170, t173⟩, A1020, H⟩ := H
                            replace H : (if t166 = true then (some false) else (if t173 = true then ((rs_Check.f y162).bind fun t174 => (some (!t174))) else (some false))) = some r := H
                            have A102 := Aside0.mk A1020
                            clear A1020
                            by_cases c103 : t166 = true
                            · subst c103
                              have H1 : (some false) = some r := by rw [if_pos rfl] at H; exact H
                              clear H
                              have H := H1
                              clear H1
                              obtain rfl := Option.some.inj H
                              go_wp2_with (first | ((with_reducible refine gate_callee (f := 12) rfl ?_); refine goesL_ (some 100) rfl rfl Try.func12 (by kernel_rfl) rfl #[.int .i64 a2, .int .i64 t126] rfl (by (try simp only [List.map_toArray, List.map_cons, List.map_nil]); first | done | rfl | (simp only [List.length_drop, List.length_take]; rfl)) ?_; (with_reducible refine (ramekinlaw5_within.calls a2 t126 t151 _ A95.out).mono ?_); rintro e w' ⟨rfl, ⟨nd, rfl⟩⟩; refine ⟨_, rfl, ?_⟩; (try (rw [drewN_self wc]; generalize hq_ : World.drewN wc _ = wc; have n0_ : Aside0 (Kd.N (Kd.slice 5 (Kd.int .u8)) 22 wc w.heap.size (fun _ => True) (.slice Ao17 t131.length co17) t131) := ⟨by rw [← hq_]; exact (by (with_reducible repeat (first | apply Kd.N_alloc | apply Kd.N_drewN | apply Kd.N_drew)); exact HO_7.out)⟩; have n1_ : Aside0 (Below w.heap.size w wc) := ⟨by rw [← hq_]; exact (by repeat (first | (with_reducible first | exact HB.out | apply below_alloc | apply pw_below_drewN | apply below_drew1) | exact HB.out))⟩; clear HO_7 HB hq_; have HO_7 := n0_; have HB := n1_; clear n0_ n1_))) | ((with_reducible refine gate_dst (N := 103) rfl ?_); (try (refine gate_guard (by rfl) ?_; dsimp only)); refine Kd.R_lit (Kd.int .u8) _ 5 ?hg (N := 103) ?hd (xs := ([] : List Int)) (inner := []) (ok := fun _ => True) (okp := fun _ => True) ?hr ?hp (fun _ hk => hk) trivial (Below.refl _ _) (Nat.le_refl _) (by simp) ?_; (case hd => rfl); (case hg => rfl); (case hr => first | (go_simp; done) | (go_simp; rfl)); (case hp => exact (Reps.none _ _)); intro v153 w104 ho105 hb hg_ hnew_; clear hg_ hnew_; (first | rw [← Ny152.out] at ho105 | (simp only [Int.reduceToNat] at ho105; rw [← Ny152.out] at ho105)); have n0_ := Aside0.mk (Kd.N_elder' (by (with_reducible repeat (first | apply Kd.N_alloc | apply Kd.N_drewN | apply Kd.N_drew)); exact HO_7.out) (Kd.R_base ho105) hb); have n1_ := Aside0.mk (Kd.R_lower ho105 (below_size (by repeat (first | (with_reducible first | exact HB.out | apply below_alloc | apply pw_below_drewN | apply below_drew1) | exact HB.out)))); have n2_ := Aside0.mk (below_step (by repeat (first | (with_reducible first | exact HB.out | apply below_alloc | apply pw_below_drewN | apply below_drew1) | exact HB.out)) hb); clear HO_7; clear HB; have HO_7 := n0_; have HO154 := n1_; have HB := n2_; clear n0_ n1_ n2_; clear hb ho105; have p155 : 0 ≤ (t151 : Int) := of_decide_eq_true (by first | (with_reducible assumption) | assumption); have q155 : t151 < (t131.length : Int) := of_decide_eq_true (by first | (with_reducible assumption) | assumption); obtain ⟨ad155, A155_0, c155_0, e155, hx155_0, hl155_0, hi155_0⟩ := at_L2 (Kd.N_reads' HO_7.out).2.2 t151 p155 q155; cases e155; obtain ⟨ce155, hce155, hMe155, hcc155⟩ := Kd.N_get HO_7.out [] t151 p155 (by first | exact q155 | exact of_decide_eq_true (by first | (with_reducible assumption) | assumption) | (have e_ := (Kd.N_reads' HO_7.out).1; omega)); obtain ⟨ua155_0, uc155_0, rfl, ul155_0, ge155_0⟩ := Kd.FK_slice_open hMe155; have hv155_0 := hcc155 0 _ rfl; rw [Nat.add_zero, show ((Kd.slice 5 (Kd.int .u8))).sz = 1 from rfl, Nat.mul_one] at hv155_0; replace hv155_0 := Option.some.inj (hv155_0.symm.trans hx155_0); injection hv155_0 with hva_ hvn_ hvc_; rw [hva_] at ge155_0; rw [hvc_] at ul155_0; have HL155_0 := Aside0.mk (show Kd.V (Kd.int .u8) 5 _ w.heap.size _ _ (rd_L2 t131 t151) from Kd.V_mk ul155_0 ge155_0); clear hva_ hvn_ hvc_ ge155_0 ul155_0; clear hcc155 hce155; have HR155_0 := Aside0.mk hi155_0; have HC155_0 := Aside0.mk hl155_0; clear hi155_0 hl155_0; replace p155 := eq_true p155; replace q155 := eq_true q155) | ((with_reducible refine gate_builtin (b := .append) (xs := #[.tmp 103, .tmp 107]) rfl ?_); (try (refine gate_guard (by rfl) ?_; dsimp only)); at_builtin; refine Kd.R_append_rows (Kd.int .u8) (w0 := w) w.heap.size rfl (.tmp 103) (.tmp 107) 22 5 (.int .u8 0) 1 rfl Try.underlying22 info5 rfl (by decide) (by omega) v153 y152 (rd_L2 t131 t151) _ _ _ (fun _ => True) (fun _ => False) rfl rfl ?aO ?aR (fun _ _ h => h) (fun _ h => h.elim) ?aF ?aB ?aS ?aL ?_; (case aR => repeat (first | exact (by repeat (first | (with_reducible exact HR155_0.out) | (with_reducible refine Kd.C_alloc ?_ _) | (with_reducible refine Kd.C_drewN ?_ _) | (with_reducible refine Kd.C_drew ?_) | exact HR155_0.out)) | (with_reducible refine Kd.C_alloc ?_ _) | (with_reducible refine Kd.C_drewN ?_ _) | (with_reducible refine Kd.C_drew ?_))); (case aB => exact (by repeat (first | (with_reducible first | exact HB.out | apply below_alloc | apply pw_below_drewN | apply below_drew1) | exact HB.out))); (case aF => exact (fun _ _ => trivial)); (case aO => exact (by (with_reducible repeat (first | apply Kd.R_alloc | apply Kd.R_drewN | apply Kd.R_drew)); exact HO154.out)); (case aS => exact (below_size (by repeat (first | (with_reducible first | exact HB.out | apply below_alloc | apply pw_below_drewN | apply below_drew1) | exact HB.out)))); (case aL => have := LMc98.out; omega); intro v157 w106 ho hb hg hat; rw [← Ny156.out] at ho; have n0_ := Aside0.mk (Kd.N_afterv (ok := (fun _ => True)) (by (with_reducible repeat (first | apply Kd.N_alloc | apply Kd.N_drewN | apply Kd.N_drew)); exact HO_7.out) hg hat); have n1_ := Aside0.mk (Kd.V_afterv (ok := (fun k_ => some k_ ≠ (.slice (some ad155) t131.length co17 : Value).ownBlock)) (by (with_reducible repeat (first | apply Kd.V_alloc | apply Kd.V_drewN | apply Kd.V_drew)); exact Kd.V_mono HL155_0.out (fun _ hk => ⟨hk.2, hk.1.2⟩)) hg hat); have n2_ := Aside0.mk (hb); have n3_ := Aside0.mk (ho); clear HO_7; clear HL155_0; clear HB; clear HO154; have HO_7 := n0_; have HL155_0 := n1_; have HB := n2_; have HO158 := n3_; clear n0_ n1_ n2_ n3_; clear ho hb hg hat) | ((with_reducible refine gate_builtin (b := .append) (xs := #[.tmp 108, .tmp 109]) rfl ?_); (try (refine gate_guard (by rfl) ?_; dsimp only)); at_builtin; refine Kd.R_append (Kd.int .u8) (w0 := w) w.heap.size rfl (.tmp 108) (.tmp 109) 22 5 (.int .u8 0) 1 rfl Try.underlying22 info5 rfl (by decide) (by omega) v157 y156 7 [.int .u8 7] (fun _ => True) (fun _ => False) rfl rfl ?aP (fun _ hk => hk.elim) ?aF ?aO ?aB ?aS ?aL ?_; (case aP => exact rfl); (case aB => exact (by repeat (first | (with_reducible first | exact HB.out | apply below_alloc | apply pw_below_drewN | apply below_drew1) | exact HB.out))); (case aF => exact (fun _ _ => trivial)); (case aO => exact (by (with_reducible repeat (first | apply Kd.R_alloc | apply Kd.R_drewN | apply Kd.R_drew)); exact HO158.out)); (case aS => exact (below_size (by repeat (first | (with_reducible first | exact HB.out | apply below_alloc | apply pw_below_drewN | apply below_drew1) | exact HB.out)))); (case aL => have := LMc99.out; omega); intro v160 w107 ho hb hg hat; rw [← Ny159.out] at ho; have n0_ := Aside0.mk (Kd.N_afterv (ok := (fun _ => True)) (by (with_reducible repeat (first | apply Kd.N_alloc | apply Kd.N_drewN | apply Kd.N_drew)); exact HO_7.out) hg hat); have n1_ := Aside0.mk (Kd.V_afterv (ok := (fun k_ => some k_ ≠ (.slice (some ad155) t131.length co17 : Value).ownBlock)) (by (with_reducible repeat (first | apply Kd.V_alloc | apply Kd.V_drewN | apply Kd.V_drew)); exact HL155_0.out) hg hat); have n2_ := Aside0.mk (hb); have n3_ := Aside0.mk (ho); clear HO_7; clear HL155_0; clear HB; clear HO158; have HO_7 := n0_; have HL155_0 := n1_; have HB := n2_; have HO161 := n3_; clear n0_ n1_ n2_ n3_; clear ho hb hg hat; have p100 : 0 ≤ (t151 : Int) := of_decide_eq_true (by first | (with_reducible assumption) | assumption); have q100 : (t151 : Int) < ((t131.length : Int) : Int) := of_decide_eq_true (by first | (with_reducible assumption) | assumption); obtain ⟨go100, co100, eo100, gb100, gl100, cl100, HG100⟩ := Kd.N_form HO_7.out (by omega); (first | cases eo100 | (injection eo100 with ea_ en_ ec_; (first | subst ea_ | (injection ea_ with ea_; subst ea_)); subst ec_; clear en_)); have GB100 := Aside0.mk gb100; have GG100 := Aside0.mk HG100; clear gb100 gl100 HG100; (first | simp only [add_plain] at hx155_0 | skip); obtain ⟨ce100, hcl100, hM100, hcc100, hfr100⟩ := Kd.N_elem HO_7.out [] (t151 : Int) p100 q100; obtain ⟨ua100_0, uc100_0, rfl, ul100_0, ge100_0⟩ := Kd.FK_slice_open hM100; have hx100_0 := hcc100 0 _ rfl; have hf100_0 := hfr100 0; (try simp only [show ((Kd.slice 5 (Kd.int .u8))).sz = 1 from rfl, Nat.mul_one, Nat.add_zero] at hx100_0); (try simp only [show ((Kd.slice 5 (Kd.int .u8))).sz = 1 from rfl, Nat.mul_one, Nat.add_zero] at hf100_0); clear hcl100 hcc100 hfr100 hM100; replace p100 := eq_true p100; replace q100 := eq_true q100; have n_ := Aside0.mk (Kd.N_mono (ok' := (fun k_ => some k_ ≠ (v160 : Value).ownBlock)) HO_7.out (fun k_ hk => hk.2)); clear HO_7; have HO_7 := n_; clear n_; have HX108 := Aside0.mk (show Kd.N (Kd.slice 5 (Kd.int .u8)) 22 w107 w.heap.size (fun _ => True) (.slice (some ⟨go100, 0, none⟩) t131.length co17) t131 from (by (with_reducible repeat (first | apply Kd.N_alloc | apply Kd.N_drewN | apply Kd.N_drew)); exact Kd.N_mono HO_7.out (fun _ hk => trivial))); obtain ⟨ce108, hcl108, hM108, hcc108, hfr108⟩ := Kd.N_elem HX108.out [] (t151 : Int) (of_decide_eq_true (by first | (with_reducible assumption) | assumption)) (by have h_ : (t151 : Int) < ((t131.length : Int) : Int) := of_decide_eq_true (by first | (with_reducible assumption) | assumption); first | exact h_ | (have e_ := (Kd.N_reads' HO_7.out).1; omega) | simpa using h_); obtain ⟨ua108_0, uc108_0, rfl, ul108_0, ge108_0⟩ := Kd.FK_slice_open hM108; have HP108 := Kd.N_seg HX108.out (t151 : Int) (of_decide_eq_true (by first | (with_reducible assumption) | assumption)) (by have h_ : (t151 : Int) < ((t131.length : Int) : Int) := of_decide_eq_true (by first | (with_reducible assumption) | assumption); first | exact h_ | (have e_ := (Kd.N_reads' HO_7.out).1; omega) | simpa using h_) (seg := [v160]) (j := 0) hcl108 hcc108 (show 1 ≤ 1 from by decide) (x' := y159) (by have h_ := (Kd.R_mono (ok' := (fun k_ => ((fun _ => True)) k_ ∧ k_ ≠ go100)) (Kd.R_apart' (HO161.out) (Kd.N_typed HO_7.out) (by decide)) (fun k_ hk => ⟨trivial, fun e_ => (hk.2) (by rw [e_]; rfl)⟩)); obtain ⟨A_, c_, e_⟩ := Kd.R_slice h_; subst e_; exact Kd.FK_slice_mk (Kd.R_reads' h_).2.1 (Kd.R_F h_)) (fun _ hk => hk); have hx108_0 := hcc108 0 _ rfl; (try simp only [show ((Kd.slice 5 (Kd.int .u8))).sz = 1 from rfl, Nat.mul_one, Nat.add_zero] at hx108_0); have hf108_0 := hfr108 0; (try simp only [show ((Kd.slice 5 (Kd.int .u8))).sz = 1 from rfl, Nat.mul_one, Nat.add_zero] at hf108_0); clear hcl108 hcc108 hfr108 hM108; (try simp only [show ((Kd.slice 5 (Kd.int .u8))).sz = 1 from rfl, Nat.mul_one, Nat.add_zero] at HP108); (try simp only [show ((Kd.slice 5 (Kd.int .u8))).sz = 1 from rfl, Nat.mul_one, Nat.add_zero] at HP108)) | ((with_reducible refine gate_store (t := 22) (p := 111) rfl ?_); refine store_event (t := 22) (p := 111) (v := ?vo_w109) (w1 := (w107.setCell ⟨go100, (t151 : Int).toNat, none⟩ (v160))) ?hg ?ho ?hn ?hr ?_; (case ho => rfl); (case hg => rfl); (case hn => rfl); (case hr => first | (go_simp; done) | (go_simp; rfl) | (obtain ⟨A_, c_, e_⟩ := Kd.R_slice HO161.out; rw [e_]; go_simp; done)); intro w109 hw; have hg : w107.grownBy w109 (some go100) := (by rw [hw]; exact HP108.2); have hp_ : Kd.N (Kd.slice 5 (Kd.int .u8)) 22 w109 w.heap.size (fun _ => True) (.slice (some ⟨go100, 0, none⟩) t131.length co17) y162 := (by rw [hw, Ny162.out]; exact HP108.1); clear HP108; have n0_ := Aside0.mk (hp_); have n1_ := Aside0.mk (Kd.V_afterv (v := (.slice (some ⟨go100, 0, none⟩) t131.length co17)) (v1 := (.slice (some ⟨go100, 0, none⟩) t131.length co17)) (ok := (fun k_ => some k_ ≠ (v160 : Value).ownBlock)) (by (with_reducible repeat (first | apply Kd.V_alloc | apply Kd.V_drewN | apply Kd.V_drew)); exact Kd.V_mono HL155_0.out (fun _ hk => ⟨hk.2, hk.1⟩)) hg (.inl rfl)); have n2_ := Aside0.mk ((by rw [hw]; exact below_set (HB.out) GB100.out : Below w.heap.size w w109)); clear HO_7; clear HL155_0; clear HB; clear HO161; have HO_7 := n0_; have HL155_0 := n1_; have HB := n2_; clear n0_ n1_ n2_; clear hg hw hp_) | ((with_reducible refine gate_callee (f := 22) rfl ?_); refine goesL_ (some 114) rfl rfl Try.func22 (by kernel_rfl) rfl #[.slice (some ⟨go100, 0, none⟩) y162.length co17, .slice none 0 0] rfl (by (try simp only [List.map_toArray, List.map_cons, List.map_nil]); first | done | (rw [show y162.length = t131.length from (Kd.N_reads' HO_7.out).1.symm] <;> rfl) | rfl | (simp only [List.length_drop, List.length_take]; rfl)) ?_; (refine (rs_Fix.calls _ _ y162 _ _ ([] : List Int) t163 true _ ?side1 ?side2 ?side3 ?side4 A101.out).mono ?_); (case side1 => repeat (first | exact (Kd.N_reads' HO_7.out).2.2 | (with_reducible refine Kd.C_alloc ?_ _) | (with_reducible refine Kd.C_drewN ?_ _) | (with_reducible refine Kd.C_drew ?_))); (case side2 => rw [show y162.length = t131.length from (Kd.N_reads' HO_7.out).1.symm]; exact (Kd.N_reads' HO_7.out).2.1); (case side3 => exact Kd.C_nil _ _); (case side4 => exact Nat.le_refl _); rintro e w110 ⟨v164, rfl, ho0, hb⟩; refine ⟨_, rfl, ?_⟩; have n0_ := Aside0.mk (Kd.N_elder' (by (with_reducible repeat (first | apply Kd.N_alloc | apply Kd.N_drewN | apply Kd.N_drew)); exact HO_7.out) (Kd.N_base ho0) hb); have n1_ := Aside0.mk (Kd.V_elder' (by (with_reducible repeat (first | apply Kd.V_alloc | apply Kd.V_drewN | apply Kd.V_drew)); exact HL155_0.out) (Kd.N_base ho0) hb); have n2_ := Aside0.mk (Kd.N_lower (Kd.N_mono (ok' := fun k_ => some k_ ≠ (.slice (some ⟨go100, 0, none⟩) t131.length co17 : Value).ownBlock) ho0 (fun k_ hk_ => (Kd.fresh' (Kd.N_lt (by (with_reducible repeat (first | apply Kd.N_alloc | apply Kd.N_drewN | apply Kd.N_drew)); exact HO_7.out)) k_ hk_))) (below_size (by repeat (first | (with_reducible first | exact HB.out | apply below_alloc | apply pw_below_drewN | apply below_drew1) | exact HB.out)))); have n3_ := Aside0.mk (below_step (by repeat (first | (with_reducible first | exact HB.out | apply below_alloc | apply pw_below_drewN | apply below_drew1) | exact HB.out)) hb); clear HO_7; clear HL155_0; clear HB; have HO_7 := n0_; have HL155_0 := n1_; have HO165 := n2_; have HB := n3_; clear n0_ n1_ n2_ n3_; (try clear hb); (try clear hb2); (try clear hk); (try clear hi); (try clear ho0)) | ((with_reducible refine gate_dst (N := 120) rfl ?_); (try (refine gate_guard (by rfl) ?_; dsimp only)); refine Kd.R_lit (Kd.int .i64) _ 3 ?hg (N := 120) ?hd (xs := ([t151] : List Int)) (inner := [.int .i64 t151]) (ok := fun _ => True) (okp := fun _ => True) ?hr ?hp (fun _ hk => hk) trivial (Below.refl _ _) (Nat.le_refl _) (by simp) ?_; (case hd => rfl); (case hg => rfl); (case hr => first | (go_simp; done) | (go_simp; rfl)); (case hp => exact (Reps.one (show Kd.M (Kd.int .i64) _ _ _ t151 [.int .i64 t151] from rfl) (Reps.none _ _))); intro v168 w111 ho112 hb hg_ hnew_; clear hg_ hnew_; (first | rw [← Ny167.out] at ho112 | (simp only [Int.reduceToNat] at ho112; rw [← Ny167.out] at ho112)); have n0_ := Aside0.mk (Kd.N_elder' (by (with_reducible repeat (first | apply Kd.N_alloc | apply Kd.N_drewN | apply Kd.N_drew)); exact HO_7.out) (Kd.R_base ho112) hb); have n1_ := Aside0.mk (Kd.V_elder' (by (with_reducible repeat (first | apply Kd.V_alloc | apply Kd.V_drewN | apply Kd.V_drew)); exact HL155_0.out) (Kd.R_base ho112) hb); have n2_ := Aside0.mk (Kd.N_elder' (by (with_reducible repeat (first | apply Kd.N_alloc | apply Kd.N_drewN | apply Kd.N_drew)); exact HO165.out) (Kd.R_base ho112) hb); have n3_ := Aside0.mk (Kd.R_lower ho112 (below_size (by repeat (first | (with_reducible first | exact HB.out | apply below_alloc | apply pw_below_drewN | apply below_drew1) | exact HB.out)))); have n4_ := Aside0.mk (below_step (by repeat (first | (with_reducible first | exact HB.out | apply below_alloc | apply pw_below_drewN | apply below_drew1) | exact HB.out)) hb); clear HO_7; clear HL155_0; clear HO165; clear HB; have HO_7 := n0_; have HL155_0 := n1_; have HO165 := n2_; have HO169 := n3_; have HB := n4_; clear n0_ n1_ n2_ n3_ n4_; clear hb ho112; obtain ⟨Ao113, co113, eo113⟩ := Kd.R_slice HO169.out; subst eo113) | ((with_reducible refine gate_callee (f := 22) rfl ?_); refine goesL_ (some 121) rfl rfl Try.func22 (by kernel_rfl) rfl #[.slice (some ⟨go100, 0, none⟩) y162.length co17, .slice Ao113 y167.length co113] rfl (by (try simp only [List.map_toArray, List.map_cons, List.map_nil]); first | done | (rw [show y162.length = t131.length from (Kd.N_reads' HO_7.out).1.symm] <;> rfl) | rfl | (simp only [List.length_drop, List.length_take]; rfl)) ?_; (with_reducible refine (rs_Fix.calls _ _ y162 _ _ y167 t170 t173 _ ?side1 ?side2 ?side3 ?side4 A102.out).mono ?_); (case side1 => repeat (first | exact (Kd.N_reads' HO_7.out).2.2 | (with_reducible refine Kd.C_alloc ?_ _) | (with_reducible refine Kd.C_drewN ?_ _) | (with_reducible refine Kd.C_drew ?_))); (case side2 => rw [show y162.length = t131.length from (Kd.N_reads' HO_7.out).1.symm]; exact (Kd.N_reads' HO_7.out).2.1); (case side3 => repeat (first | exact (Kd.R_reads' HO169.out).2.2 | (with_reducible refine Kd.C_alloc ?_ _) | (with_reducible refine Kd.C_drewN ?_ _) | (with_reducible refine Kd.C_drew ?_))); (case side4 => exact (Kd.R_reads' HO169.out).2.1); rintro e w114 ⟨v171, rfl, ho0, hb⟩; refine ⟨_, rfl, ?_⟩; have n0_ := Aside0.mk (Kd.N_elder' (by (with_reducible repeat (first | apply Kd.N_alloc | apply Kd.N_drewN | apply Kd.N_drew)); exact HO_7.out) (Kd.N_base ho0) hb); have n1_ := Aside0.mk (Kd.V_elder' (by (with_reducible repeat (first | apply Kd.V_alloc | apply Kd.V_drewN | apply Kd.V_drew)); exact HL155_0.out) (Kd.N_base ho0) hb); have n2_ := Aside0.mk (Kd.N_elder' (by (with_reducible repeat (first | apply Kd.N_alloc | apply Kd.N_drewN | apply Kd.N_drew)); exact HO165.out) (Kd.N_base ho0) hb); have n3_ := Aside0.mk (Kd.R_below (by (with_reducible repeat (first | apply Kd.R_alloc | apply Kd.R_drewN | apply Kd.R_drew)); exact HO169.out) hb); have n4_ := Aside0.mk (Kd.N_lower (Kd.N_mono (ok' := fun k_ => some k_ ≠ (.slice (some ⟨go100, 0, none⟩) t131.length co17 : Value).ownBlock ∧ some k_ ≠ (v164 : Value).ownBlock ∧ some k_ ≠ (.slice Ao113 y167.length co113 : Value).ownBlock) ho0 (fun k_ hk_ => ⟨(Kd.fresh' (Kd.N_lt (by (with_reducible repeat (first | apply Kd.N_alloc | apply Kd.N_drewN | apply Kd.N_drew)); exact HO_7.out)) k_ hk_), (Kd.fresh' (Kd.N_lt (by (with_reducible repeat (first | apply Kd.N_alloc | apply Kd.N_drewN | apply Kd.N_drew)); exact HO165.out)) k_ hk_), (Kd.fresh' (Kd.R_lt (by (with_reducible repeat (first | apply Kd.R_alloc | apply Kd.R_drewN | apply Kd.R_drew)); exact HO169.out)) k_ hk_)⟩)) (below_size (by repeat (first | (with_reducible first | exact HB.out | apply below_alloc | apply pw_below_drewN | apply below_drew1) | exact HB.out)))); have n5_ := Aside0.mk (below_step (by repeat (first | (with_reducible first | exact HB.out | apply below_alloc | apply pw_below_drewN | apply below_drew1) | exact HB.out)) hb); clear HO_7; clear HL155_0; clear HO165; clear HO169; clear HB; have HO_7 := n0_; have HL155_0 := n1_; have HO165 := n2_; have HO169 := n3_; have HO172 := n4_; have HB := n5_; clear n0_ n1_ n2_ n3_ n4_ n5_; (try clear hb); (try clear hb2); (try clear hk); (try clear hi); (try clear ho0)))
                              go_ret
                              exact ⟨by first | rfl | (simp [errW_none, errW_some] <;> rfl) | (simp [*, errW_none, errW_some] <;> rfl), by repeat (first | (with_reducible first | exact HB.out | apply below_alloc | apply pw_below_drewN | apply below_drew1) | exact HB.out)⟩
                            · replace c103 := Bool.eq_false_iff.mpr c103
                              subst c103
                              have H1 : (if t173 = true then ((rs_Check.f y162).bind fun t174 => (some (!t174))) else (some false)) = some r := by rw [if_neg (show ¬ (false = true) by decide)] at H; exact H
                              clear H
                              have H := H1
                              clear H1
                              by_cases c115 : t173 = true
                              · subst c115
                                have H1 : ((rs_Check.f y162).bind fun t174 => (some (!t174))) = some r := by rw [if_pos rfl] at H; exact H
                                clear H
                                have H := H1
                                clear H1
                                replace H := Option.bind_eq_some_iff.mp H
                                obtain ⟨t174, A1160, H⟩ := H
                                replace H : (some (!t174)) = some r := H
                                have A116 := Aside0.mk A1160
                                clear A1160
                                obtain rfl := Option.some.inj H
                                go_wp2_with (first | ((with_reducible refine gate_callee (f := 12) rfl ?_); refine goesL_ (some 100) rfl rfl Try.func12 (by kernel_rfl) rfl #[.int .i64 a2, .int .i64 t126] rfl (by (try simp only [List.map_toArray, List.map_cons, List.map_nil]); first | done | rfl | (simp only [List.length_drop, List.length_take]; rfl)) ?_; (with_reducible refine (ramekinlaw5_within.calls a2 t126 t151 _ A95.out).mono ?_); rintro e w' ⟨rfl, ⟨nd, rfl⟩⟩; refine ⟨_, rfl, ?_⟩; (try (rw [drewN_self wc]; generalize hq_ : World.drewN wc _ = wc; have n0_ : Aside0 (Kd.N (Kd.slice 5 (Kd.int .u8)) 22 wc w.heap.size (fun _ => True) (.slice Ao17 t131.length co17) t131) := ⟨by rw [← hq_]; exact (by (with_reducible repeat (first | apply Kd.N_alloc | apply Kd.N_drewN | apply Kd.N_drew)); exact HO_7.out)⟩; have n1_ : Aside0 (Below w.heap.size w wc) := ⟨by rw [← hq_]; exact (by repeat (first | (with_reducible first | exact HB.out | apply below_alloc | apply pw_below_drewN | apply below_drew1) | exact HB.out))⟩; clear HO_7 HB hq_; have HO_7 := n0_; have HB := n1_; clear n0_ n1_))) | ((with_reducible refine gate_dst (N := 103) rfl ?_); (try (refine gate_guard (by rfl) ?_; dsimp only)); refine Kd.R_lit (Kd.int .u8) _ 5 ?hg (N := 103) ?hd (xs := ([] : List Int)) (inner := []) (ok := fun _ => True) (okp := fun _ => True) ?hr ?hp (fun _ hk => hk) trivial (Below.refl _ _) (Nat.le_refl _) (by simp) ?_; (case hd => rfl); (case hg => rfl); (case hr => first | (go_simp; done) | (go_simp; rfl)); (case hp => exact (Reps.none _ _)); intro v153 w117 ho118 hb hg_ hnew_; clear hg_ hnew_; (first | rw [← Ny152.out] at ho118 | (simp only [Int.reduceToNat] at ho118; rw [← Ny152.out] at ho118)); have n0_ := Aside0.mk (Kd.N_elder' (by (with_reducible repeat (first | apply Kd.N_alloc | apply Kd.N_drewN | apply Kd.N_drew)); exact HO_7.out) (Kd.R_base ho118) hb); have n1_ := Aside0.mk (Kd.R_lower ho118 (below_size (by repeat (first | (with_reducible first | exact HB.out | apply below_alloc | apply pw_below_drewN | apply below_drew1) | exact HB.out)))); have n2_ := Aside0.mk (below_step (by repeat (first | (with_reducible first | exact HB.out | apply below_alloc | apply pw_below_drewN | apply below_drew1) | exact HB.out)) hb); clear HO_7; clear HB; have HO_7 := n0_; have HO154 := n1_; have HB := n2_; clear n0_ n1_ n2_; clear hb ho118; have p155 : 0 ≤ (t151 : Int) := of_decide_eq_true (by first | (with_reducible assumption) | assumption); have q155 : t151 < (t131.length : Int) := of_decide_eq_true (by first | (with_reducible assumption) | assumption); obtain ⟨ad155, A155_0, c155_0, e155, hx155_0, hl155_0, hi155_0⟩ := at_L2 (Kd.N_reads' HO_7.out).2.2 t151 p155 q155; cases e155; obtain ⟨ce155, hce155, hMe155, hcc155⟩ := Kd.N_get HO_7.out [] t151 p155 (by first | exact q155 | exact of_decide_eq_true (by first | (with_reducible assumption) | assumption) | (have e_ := (Kd.N_reads' HO_7.out).1; omega)); obtain ⟨ua155_0, uc155_0, rfl, ul155_0, ge155_0⟩ := Kd.FK_slice_open hMe155; have hv155_0 := hcc155 0 _ rfl; rw [Nat.add_zero, show ((Kd.slice 5 (Kd.int .u8))).sz = 1 from rfl, Nat.mul_one] at hv155_0; replace hv155_0 := Option.some.inj (hv155_0.symm.trans hx155_0); injection hv155_0 with hva_ hvn_ hvc_; rw [hva_] at ge155_0; rw [hvc_] at ul155_0; have HL155_0 := Aside0.mk (show Kd.V (Kd.int .u8) 5 _ w.heap.size _ _ (rd_L2 t131 t151) from Kd.V_mk ul155_0 ge155_0); clear hva_ hvn_ hvc_ ge155_0 ul155_0; clear hcc155 hce155; have HR155_0 := Aside0.mk hi155_0; have HC155_0 := Aside0.mk hl155_0; clear hi155_0 hl155_0; replace p155 := eq_true p155; replace q155 := eq_true q155) | ((with_reducible refine gate_builtin (b := .append) (xs := #[.tmp 103, .tmp 107]) rfl ?_); (try (refine gate_guard (by rfl) ?_; dsimp only)); at_builtin; refine Kd.R_append_rows (Kd.int .u8) (w0 := w) w.heap.size rfl (.tmp 103) (.tmp 107) 22 5 (.int .u8 0) 1 rfl Try.underlying22 info5 rfl (by decide) (by omega) v153 y152 (rd_L2 t131 t151) _ _ _ (fun _ => True) (fun _ => False) rfl rfl ?aO ?aR (fun _ _ h => h) (fun _ h => h.elim) ?aF ?aB ?aS ?aL ?_; (case aR => repeat (first | exact (by repeat (first | (with_reducible exact HR155_0.out) | (with_reducible refine Kd.C_alloc ?_ _) | (with_reducible refine Kd.C_drewN ?_ _) | (with_reducible refine Kd.C_drew ?_) | exact HR155_0.out)) | (with_reducible refine Kd.C_alloc ?_ _) | (with_reducible refine Kd.C_drewN ?_ _) | (with_reducible refine Kd.C_drew ?_))); (case aB => exact (by repeat (first | (with_reducible first | exact HB.out | apply below_alloc | apply pw_below_drewN | apply below_drew1) | exact HB.out))); (case aF => exact (fun _ _ => trivial)); (case aO => exact (by (with_reducible repeat (first | apply Kd.R_alloc | apply Kd.R_drewN | apply Kd.R_drew)); exact HO154.out)); (case aS => exact (below_size (by repeat (first | (with_reducible first | exact HB.out | apply below_alloc | apply pw_below_drewN | apply below_drew1) | exact HB.out)))); (case aL => have := LMc98.out; omega); intro v157 w119 ho hb hg hat; rw [← Ny156.out] at ho; have n0_ := Aside0.mk (Kd.N_afterv (ok := (fun _ => True)) (by (with_reducible repeat (first | apply Kd.N_alloc | apply Kd.N_drewN | apply Kd.N_drew)); exact HO_7.out) hg hat); have n1_ := Aside0.mk (Kd.V_afterv (ok := (fun k_ => some k_ ≠ (.slice (some ad155) t131.length co17 : Value).ownBlock)) (by (with_reducible repeat (first | apply Kd.V_alloc | apply Kd.V_drewN | apply Kd.V_drew)); exact Kd.V_mono HL155_0.out (fun _ hk => ⟨hk.2, hk.1.2⟩)) hg hat); have n2_ := Aside0.mk (hb); have n3_ := Aside0.mk (ho); clear HO_7; clear HL155_0; clear HB; clear HO154; have HO_7 := n0_; have HL155_0 := n1_; have HB := n2_; have HO158 := n3_; clear n0_ n1_ n2_ n3_; clear ho hb hg hat) | ((with_reducible refine gate_builtin (b := .append) (xs := #[.tmp 108, .tmp 109]) rfl ?_); (try (refine gate_guard (by rfl) ?_; dsimp only)); at_builtin; refine Kd.R_append (Kd.int .u8) (w0 := w) w.heap.size rfl (.tmp 108) (.tmp 109) 22 5 (.int .u8 0) 1 rfl Try.underlying22 info5 rfl (by decide) (by omega) v157 y156 7 [.int .u8 7] (fun _ => True) (fun _ => False) rfl rfl ?aP (fun _ hk => hk.elim) ?aF ?aO ?aB ?aS ?aL ?_; (case aP => exact rfl); (case aB => exact (by repeat (first | (with_reducible first | exact HB.out | apply below_alloc | apply pw_below_drewN | apply below_drew1) | exact HB.out))); (case aF => exact (fun _ _ => trivial)); (case aO => exact (by (with_reducible repeat (first | apply Kd.R_alloc | apply Kd.R_drewN | apply Kd.R_drew)); exact HO158.out)); (case aS => exact (below_size (by repeat (first | (with_reducible first | exact HB.out | apply below_alloc | apply pw_below_drewN | apply below_drew1) | exact HB.out)))); (case aL => have := LMc99.out; omega); intro v160 w120 ho hb hg hat; rw [← Ny159.out] at ho; have n0_ := Aside0.mk (Kd.N_afterv (ok := (fun _ => True)) (by (with_reducible repeat (first | apply Kd.N_alloc | apply Kd.N_drewN | apply Kd.N_drew)); exact HO_7.out) hg hat); have n1_ := Aside0.mk (Kd.V_afterv (ok := (fun k_ => some k_ ≠ (.slice (some ad155) t131.length co17 : Value).ownBlock)) (by (with_reducible repeat (first | apply Kd.V_alloc | apply Kd.V_drewN | apply Kd.V_drew)); exact HL155_0.out) hg hat); have n2_ := Aside0.mk (hb); have n3_ := Aside0.mk (ho); clear HO_7; clear HL155_0; clear HB; clear HO158; have HO_7 := n0_; have HL155_0 := n1_; have HB := n2_; have HO161 := n3_; clear n0_ n1_ n2_ n3_; clear ho hb hg hat; have p100 : 0 ≤ (t151 : Int) := of_decide_eq_true (by first | (with_reducible assumption) | assumption); have q100 : (t151 : Int) < ((t131.length : Int) : Int) := of_decide_eq_true (by first | (with_reducible assumption) | assumption); obtain ⟨go100, co100, eo100, gb100, gl100, cl100, HG100⟩ := Kd.N_form HO_7.out (by omega); (first | cases eo100 | (injection eo100 with ea_ en_ ec_; (first | subst ea_ | (injection ea_ with ea_; subst ea_)); subst ec_; clear en_)); have GB100 := Aside0.mk gb100; have GG100 := Aside0.mk HG100; clear gb100 gl100 HG100; (first | simp only [add_plain] at hx155_0 | skip); obtain ⟨ce100, hcl100, hM100, hcc100, hfr100⟩ := Kd.N_elem HO_7.out [] (t151 : Int) p100 q100; obtain ⟨ua100_0, uc100_0, rfl, ul100_0, ge100_0⟩ := Kd.FK_slice_open hM100; have hx100_0 := hcc100 0 _ rfl; have hf100_0 := hfr100 0; (try simp only [show ((Kd.slice 5 (Kd.int .u8))).sz = 1 from rfl, Nat.mul_one, Nat.add_zero] at hx100_0); (try simp only [show ((Kd.slice 5 (Kd.int .u8))).sz = 1 from rfl, Nat.mul_one, Nat.add_zero] at hf100_0); clear hcl100 hcc100 hfr100 hM100; replace p100 := eq_true p100; replace q100 := eq_true q100; have n_ := Aside0.mk (Kd.N_mono (ok' := (fun k_ => some k_ ≠ (v160 : Value).ownBlock)) HO_7.out (fun k_ hk => hk.2)); clear HO_7; have HO_7 := n_; clear n_; have HX121 := Aside0.mk (show Kd.N (Kd.slice 5 (Kd.int .u8)) 22 w120 w.heap.size (fun _ => True) (.slice (some ⟨go100, 0, none⟩) t131.length co17) t131 from (by (with_reducible repeat (first | apply Kd.N_alloc | apply Kd.N_drewN | apply Kd.N_drew)); exact Kd.N_mono HO_7.out (fun _ hk => trivial))); obtain ⟨ce121, hcl121, hM121, hcc121, hfr121⟩ := Kd.N_elem HX121.out [] (t151 : Int) (of_decide_eq_true (by first | (with_reducible assumption) | assumption)) (by have h_ : (t151 : Int) < ((t131.length : Int) : Int) := of_decide_eq_true (by first | (with_reducible assumption) | assumption); first | exact h_ | (have e_ := (Kd.N_reads' HO_7.out).1; omega) | simpa using h_); obtain ⟨ua121_0, uc121_0, rfl, ul121_0, ge121_0⟩ := Kd.FK_slice_open hM121; have HP121 := Kd.N_seg HX121.out (t151 : Int) (of_decide_eq_true (by first | (with_reducible assumption) | assumption)) (by have h_ : (t151 : Int) < ((t131.length : Int) : Int) := of_decide_eq_true (by first | (with_reducible assumption) | assumption); first | exact h_ | (have e_ := (Kd.N_reads' HO_7.out).1; omega) | simpa using h_) (seg := [v160]) (j := 0) hcl121 hcc121 (show 1 ≤ 1 from by decide) (x' := y159) (by have h_ := (Kd.R_mono (ok' := (fun k_ => ((fun _ => True)) k_ ∧ k_ ≠ go100)) (Kd.R_apart' (HO161.out) (Kd.N_typed HO_7.out) (by decide)) (fun k_ hk => ⟨trivial, fun e_ => (hk.2) (by rw [e_]; rfl)⟩)); obtain ⟨A_, c_, e_⟩ := Kd.R_slice h_; subst e_; exact Kd.FK_slice_mk (Kd.R_reads' h_).2.1 (Kd.R_F h_)) (fun _ hk => hk); have hx121_0 := hcc121 0 _ rfl; (try simp only [show ((Kd.slice 5 (Kd.int .u8))).sz = 1 from rfl, Nat.mul_one, Nat.add_zero] at hx121_0); have hf121_0 := hfr121 0; (try simp only [show ((Kd.slice 5 (Kd.int .u8))).sz = 1 from rfl, Nat.mul_one, Nat.add_zero] at hf121_0); clear hcl121 hcc121 hfr121 hM121; (try simp only [show ((Kd.slice 5 (Kd.int .u8))).sz = 1 from rfl, Nat.mul_one, Nat.add_zero] at HP121); (try simp only [show ((Kd.slice 5 (Kd.int .u8))).sz = 1 from rfl, Nat.mul_one, Nat.add_zero] at HP121)) | ((with_reducible refine gate_store (t := 22) (p := 111) rfl ?_); refine store_event (t := 22) (p := 111) (v := ?vo_w122) (w1 := (w120.setCell ⟨go100, (t151 : Int).toNat, none⟩ (v160))) ?hg ?ho ?hn ?hr ?_; (case ho => rfl); (case hg => rfl); (case hn => rfl); (case hr => first | (go_simp; done) | (go_simp; rfl) | (obtain ⟨A_, c_, e_⟩ := Kd.R_slice HO161.out; rw [e_]; go_simp; done)); intro w122 hw; have hg : w120.grownBy w122 (some go100) := (by rw [hw]; exact HP121.2); have hp_ : Kd.N (Kd.slice 5 (Kd.int .u8)) 22 w122 w.heap.size (fun _ => True) (.slice (some ⟨go100, 0, none⟩) t131.length co17) y162 := (by rw [hw, Ny162.out]; exact HP121.1); clear HP121; have n0_ := Aside0.mk (hp_); have n1_ := Aside0.mk (Kd.V_afterv (v := (.slice (some ⟨go100, 0, none⟩) t131.length co17)) (v1 := (.slice (some ⟨go100, 0, none⟩) t131.length co17)) (ok := (fun k_ => some k_ ≠ (v160 : Value).ownBlock)) (by (with_reducible repeat (first | apply Kd.V_alloc | apply Kd.V_drewN | apply Kd.V_drew)); exact Kd.V_mono HL155_0.out (fun _ hk => ⟨hk.2, hk.1⟩)) hg (.inl rfl)); have n2_ := Aside0.mk ((by rw [hw]; exact below_set (HB.out) GB100.out : Below w.heap.size w w122)); clear HO_7; clear HL155_0; clear HB; clear HO161; have HO_7 := n0_; have HL155_0 := n1_; have HB := n2_; clear n0_ n1_ n2_; clear hg hw hp_) | ((with_reducible refine gate_callee (f := 22) rfl ?_); refine goesL_ (some 114) rfl rfl Try.func22 (by kernel_rfl) rfl #[.slice (some ⟨go100, 0, none⟩) y162.length co17, .slice none 0 0] rfl (by (try simp only [List.map_toArray, List.map_cons, List.map_nil]); first | done | (rw [show y162.length = t131.length from (Kd.N_reads' HO_7.out).1.symm] <;> rfl) | rfl | (simp only [List.length_drop, List.length_take]; rfl)) ?_; (refine (rs_Fix.calls _ _ y162 _ _ ([] : List Int) t163 false _ ?side1 ?side2 ?side3 ?side4 A101.out).mono ?_); (case side1 => repeat (first | exact (Kd.N_reads' HO_7.out).2.2 | (with_reducible refine Kd.C_alloc ?_ _) | (with_reducible refine Kd.C_drewN ?_ _) | (with_reducible refine Kd.C_drew ?_))); (case side2 => rw [show y162.length = t131.length from (Kd.N_reads' HO_7.out).1.symm]; exact (Kd.N_reads' HO_7.out).2.1); (case side3 => exact Kd.C_nil _ _); (case side4 => exact Nat.le_refl _); rintro e w123 ⟨v164, rfl, ho0, hb⟩; refine ⟨_, rfl, ?_⟩; have n0_ := Aside0.mk (Kd.N_elder' (by (with_reducible repeat (first | apply Kd.N_alloc | apply Kd.N_drewN | apply Kd.N_drew)); exact HO_7.out) (Kd.N_base ho0) hb); have n1_ := Aside0.mk (Kd.V_elder' (by (with_reducible repeat (first | apply Kd.V_alloc | apply Kd.V_drewN | apply Kd.V_drew)); exact HL155_0.out) (Kd.N_base ho0) hb); have n2_ := Aside0.mk (Kd.N_lower (Kd.N_mono (ok' := fun k_ => some k_ ≠ (.slice (some ⟨go100, 0, none⟩) t131.length co17 : Value).ownBlock) ho0 (fun k_ hk_ => (Kd.fresh' (Kd.N_lt (by (with_reducible repeat (first | apply Kd.N_alloc | apply Kd.N_drewN | apply Kd.N_drew)); exact HO_7.out)) k_ hk_))) (below_size (by repeat (first | (with_reducible first | exact HB.out | apply below_alloc | apply pw_below_drewN | apply below_drew1) | exact HB.out)))); have n3_ := Aside0.mk (below_step (by repeat (first | (with_reducible first | exact HB.out | apply below_alloc | apply pw_below_drewN | apply below_drew1) | exact HB.out)) hb); clear HO_7; clear HL155_0; clear HB; have HO_7 := n0_; have HL155_0 := n1_; have HO165 := n2_; have HB := n3_; clear n0_ n1_ n2_ n3_; (try clear hb); (try clear hb2); (try clear hk); (try clear hi); (try clear ho0)) | ((with_reducible refine gate_dst (N := 120) rfl ?_); (try (refine gate_guard (by rfl) ?_; dsimp only)); refine Kd.R_lit (Kd.int .i64) _ 3 ?hg (N := 120) ?hd (xs := ([t151] : List Int)) (inner := [.int .i64 t151]) (ok := fun _ => True) (okp := fun _ => True) ?hr ?hp (fun _ hk => hk) trivial (Below.refl _ _) (Nat.le_refl _) (by simp) ?_; (case hd => rfl); (case hg => rfl); (case hr => first | (go_simp; done) | (go_simp; rfl)); (case hp => exact (Reps.one (show Kd.M (Kd.int .i64) _ _ _ t151 [.int .i64 t151] from rfl) (Reps.none _ _))); intro v168 w124 ho125 hb hg_ hnew_; clear hg_ hnew_; (first | rw [← Ny167.out] at ho125 | (simp only [Int.reduceToNat] at ho125; rw [← Ny167.out] at ho125)); have n0_ := Aside0.mk (Kd.N_elder' (by (with_reducible repeat (first | apply Kd.N_alloc | apply Kd.N_drewN | apply Kd.N_drew)); exact HO_7.out) (Kd.R_base ho125) hb); have n1_ := Aside0.mk (Kd.V_elder' (by (with_reducible repeat (first | apply Kd.V_alloc | apply Kd.V_drewN | apply Kd.V_drew)); exact HL155_0.out) (Kd.R_base ho125) hb); have n2_ := Aside0.mk (Kd.N_elder' (by (with_reducible repeat (first | apply Kd.N_alloc | apply Kd.N_drewN | apply Kd.N_drew)); exact HO165.out) (Kd.R_base ho125) hb); have n3_ := Aside0.mk (Kd.R_lower ho125 (below_size (by repeat (first | (with_reducible first | exact HB.out | apply below_alloc | apply pw_below_drewN | apply below_drew1) | exact HB.out)))); have n4_ := Aside0.mk (below_step (by repeat (first | (with_reducible first | exact HB.out | apply below_alloc | apply pw_below_drewN | apply below_drew1) | exact HB.out)) hb); clear HO_7; clear HL155_0; clear HO165; clear HB; have HO_7 := n0_; have HL155_0 := n1_; have HO165 := n2_; have HO169 := n3_; have HB := n4_; clear n0_ n1_ n2_ n3_ n4_; clear hb ho125; obtain ⟨Ao126, co126, eo126⟩ := Kd.R_slice HO169.out; subst eo126) | ((with_reducible refine gate_callee (f := 22) rfl ?_); refine goesL_ (some 121) rfl rfl Try.func22 (by kernel_rfl) rfl #[.slice (some ⟨go100, 0, none⟩) y162.length co17, .slice Ao126 y167.length co126] rfl (by (try simp only [List.map_toArray, List.map_cons, List.map_nil]); first | done | (rw [show y162.length = t131.length from (Kd.N_reads' HO_7.out).1.symm] <;> rfl) | rfl | (simp only [List.length_drop, List.length_take]; rfl)) ?_; (with_reducible refine (rs_Fix.calls _ _ y162 _ _ y167 t170 true _ ?side1 ?side2 ?side3 ?side4 A102.out).mono ?_); (case side1 => repeat (first | exact (Kd.N_reads' HO_7.out).2.2 | (with_reducible refine Kd.C_alloc ?_ _) | (with_reducible refine Kd.C_drewN ?_ _) | (with_reducible refine Kd.C_drew ?_))); (case side2 => rw [show y162.length = t131.length from (Kd.N_reads' HO_7.out).1.symm]; exact (Kd.N_reads' HO_7.out).2.1); (case side3 => repeat (first | exact (Kd.R_reads' HO169.out).2.2 | (with_reducible refine Kd.C_alloc ?_ _) | (with_reducible refine Kd.C_drewN ?_ _) | (with_reducible refine Kd.C_drew ?_))); (case side4 => exact (Kd.R_reads' HO169.out).2.1); rintro e w127 ⟨v171, rfl, ho0, hb⟩; refine ⟨_, rfl, ?_⟩; have n0_ := Aside0.mk (Kd.N_elder' (by (with_reducible repeat (first | apply Kd.N_alloc | apply Kd.N_drewN | apply Kd.N_drew)); exact HO_7.out) (Kd.N_base ho0) hb); have n1_ := Aside0.mk (Kd.V_elder' (by (with_reducible repeat (first | apply Kd.V_alloc | apply Kd.V_drewN | apply Kd.V_drew)); exact HL155_0.out) (Kd.N_base ho0) hb); have n2_ := Aside0.mk (Kd.N_elder' (by (with_reducible repeat (first | apply Kd.N_alloc | apply Kd.N_drewN | apply Kd.N_drew)); exact HO165.out) (Kd.N_base ho0) hb); have n3_ := Aside0.mk (Kd.R_below (by (with_reducible repeat (first | apply Kd.R_alloc | apply Kd.R_drewN | apply Kd.R_drew)); exact HO169.out) hb); have n4_ := Aside0.mk (Kd.N_lower (Kd.N_mono (ok' := fun k_ => some k_ ≠ (.slice (some ⟨go100, 0, none⟩) t131.length co17 : Value).ownBlock ∧ some k_ ≠ (v164 : Value).ownBlock ∧ some k_ ≠ (.slice Ao126 y167.length co126 : Value).ownBlock) ho0 (fun k_ hk_ => ⟨(Kd.fresh' (Kd.N_lt (by (with_reducible repeat (first | apply Kd.N_alloc | apply Kd.N_drewN | apply Kd.N_drew)); exact HO_7.out)) k_ hk_), (Kd.fresh' (Kd.N_lt (by (with_reducible repeat (first | apply Kd.N_alloc | apply Kd.N_drewN | apply Kd.N_drew)); exact HO165.out)) k_ hk_), (Kd.fresh' (Kd.R_lt (by (with_reducible repeat (first | apply Kd.R_alloc | apply Kd.R_drewN | apply Kd.R_drew)); exact HO169.out)) k_ hk_)⟩)) (below_size (by repeat (first | (with_reducible first | exact HB.out | apply below_alloc | apply pw_below_drewN | apply below_drew1) | exact HB.out)))); have n5_ := Aside0.mk (below_step (by repeat (first | (with_reducible first | exact HB.out | apply below_alloc | apply pw_below_drewN | apply below_drew1) | exact HB.out)) hb); clear HO_7; clear HL155_0; clear HO165; clear HO169; clear HB; have HO_7 := n0_; have HL155_0 := n1_; have HO165 := n2_; have HO169 := n3_; have HO172 := n4_; have HB := n5_; clear n0_ n1_ n2_ n3_ n4_ n5_; (try clear hb); (try clear hb2); (try clear hk); (try clear hi); (try clear ho0)) | (go_at_call 19; refine calls_of_args (args' := #[.slice (some ⟨go100, 0, none⟩) y162.length co17]) (by first | (rw [show y162.length = t131.length from (Kd.N_reads' HO_7.out).1.symm] <;> rfl) | rfl) ?_; (with_reducible refine (rs_Check.calls _ _ y162 t174 _ ?side1 ?side2 A116.out).mono ?_); (case side1 => repeat (first | exact (Kd.N_reads' HO_7.out).2.2 | (with_reducible refine Kd.C_alloc ?_ _) | (with_reducible refine Kd.C_drewN ?_ _) | (with_reducible refine Kd.C_drew ?_))); (case side2 => rw [show y162.length = t131.length from (Kd.N_reads' HO_7.out).1.symm]; exact (Kd.N_reads' HO_7.out).2.1); rintro e w128 ⟨rfl, hb⟩; have n0_ := Aside0.mk (Kd.N_below (by (with_reducible repeat (first | apply Kd.N_alloc | apply Kd.N_drewN | apply Kd.N_drew)); exact HO_7.out) hb); have n1_ := Aside0.mk (Kd.V_below (by (with_reducible repeat (first | apply Kd.V_alloc | apply Kd.V_drewN | apply Kd.V_drew)); exact HL155_0.out) hb); have n2_ := Aside0.mk (Kd.N_below (by (with_reducible repeat (first | apply Kd.N_alloc | apply Kd.N_drewN | apply Kd.N_drew)); exact HO165.out) hb); have n3_ := Aside0.mk (Kd.R_below (by (with_reducible repeat (first | apply Kd.R_alloc | apply Kd.R_drewN | apply Kd.R_drew)); exact HO169.out) hb); have n4_ := Aside0.mk (Kd.N_below (by (with_reducible repeat (first | apply Kd.N_alloc | apply Kd.N_drewN | apply Kd.N_drew)); exact HO172.out) hb); have n5_ := Aside0.mk (below_step (by repeat (first | (with_reducible first | exact HB.out | apply below_alloc | apply pw_below_drewN | apply below_drew1) | exact HB.out)) hb); clear HO_7; clear HL155_0; clear HO165; clear HO169; clear HO172; clear HB; have HO_7 := n0_; have HL155_0 := n1_; have HO165 := n2_; have HO169 := n3_; have HO172 := n4_; have HB := n5_; clear n0_ n1_ n2_ n3_ n4_ n5_; (try clear hb); (try clear hb2); (try clear hk); (try clear hi)))
                                go_ret
                                exact ⟨by first | rfl | (simp [errW_none, errW_some] <;> rfl) | (simp [*, errW_none, errW_some] <;> rfl), by repeat (first | (with_reducible first | exact HB.out | apply below_alloc | apply pw_below_drewN | apply below_drew1) | exact HB.out)⟩
                              · replace c115 := Bool.eq_false_iff.mpr c115
                                subst c115
                                have H1 : (some false) = some r := by rw [if_neg (show ¬ (false = true) by decide)] at H; exact H
                                clear H
                                have H := H1
                                clear H1
                                obtain rfl := Option.some.inj H
                                go_wp2_with (first | ((with_reducible refine gate_callee (f := 12) rfl ?_); refine goesL_ (some 100) rfl rfl Try.func12 (by kernel_rfl) rfl #[.int .i64 a2, .int .i64 t126] rfl (by (try simp only [List.map_toArray, List.map_cons, List.map_nil]); first | done | rfl | (simp only [List.length_drop, List.length_take]; rfl)) ?_; (with_reducible refine (ramekinlaw5_within.calls a2 t126 t151 _ A95.out).mono ?_); rintro e w' ⟨rfl, ⟨nd, rfl⟩⟩; refine ⟨_, rfl, ?_⟩; (try (rw [drewN_self wc]; generalize hq_ : World.drewN wc _ = wc; have n0_ : Aside0 (Kd.N (Kd.slice 5 (Kd.int .u8)) 22 wc w.heap.size (fun _ => True) (.slice Ao17 t131.length co17) t131) := ⟨by rw [← hq_]; exact (by (with_reducible repeat (first | apply Kd.N_alloc | apply Kd.N_drewN | apply Kd.N_drew)); exact HO_7.out)⟩; have n1_ : Aside0 (Below w.heap.size w wc) := ⟨by rw [← hq_]; exact (by repeat (first | (with_reducible first | exact HB.out | apply below_alloc | apply pw_below_drewN | apply below_drew1) | exact HB.out))⟩; clear HO_7 HB hq_; have HO_7 := n0_; have HB := n1_; clear n0_ n1_))) | ((with_reducible refine gate_dst (N := 103) rfl ?_); (try (refine gate_guard (by rfl) ?_; dsimp only)); refine Kd.R_lit (Kd.int .u8) _ 5 ?hg (N := 103) ?hd (xs := ([] : List Int)) (inner := []) (ok := fun _ => True) (okp := fun _ => True) ?hr ?hp (fun _ hk => hk) trivial (Below.refl _ _) (Nat.le_refl _) (by simp) ?_; (case hd => rfl); (case hg => rfl); (case hr => first | (go_simp; done) | (go_simp; rfl)); (case hp => exact (Reps.none _ _)); intro v153 w129 ho130 hb hg_ hnew_; clear hg_ hnew_; (first | rw [← Ny152.out] at ho130 | (simp only [Int.reduceToNat] at ho130; rw [← Ny152.out] at ho130)); have n0_ := Aside0.mk (Kd.N_elder' (by (with_reducible repeat (first | apply Kd.N_alloc | apply Kd.N_drewN | apply Kd.N_drew)); exact HO_7.out) (Kd.R_base ho130) hb); have n1_ := Aside0.mk (Kd.R_lower ho130 (below_size (by repeat (first | (with_reducible first | exact HB.out | apply below_alloc | apply pw_below_drewN | apply below_drew1) | exact HB.out)))); have n2_ := Aside0.mk (below_step (by repeat (first | (with_reducible first | exact HB.out | apply below_alloc | apply pw_below_drewN | apply below_drew1) | exact HB.out)) hb); clear HO_7; clear HB; have HO_7 := n0_; have HO154 := n1_; have HB := n2_; clear n0_ n1_ n2_; clear hb ho130; have p155 : 0 ≤ (t151 : Int) := of_decide_eq_true (by first | (with_reducible assumption) | assumption); have q155 : t151 < (t131.length : Int) := of_decide_eq_true (by first | (with_reducible assumption) | assumption); obtain ⟨ad155, A155_0, c155_0, e155, hx155_0, hl155_0, hi155_0⟩ := at_L2 (Kd.N_reads' HO_7.out).2.2 t151 p155 q155; cases e155; obtain ⟨ce155, hce155, hMe155, hcc155⟩ := Kd.N_get HO_7.out [] t151 p155 (by first | exact q155 | exact of_decide_eq_true (by first | (with_reducible assumption) | assumption) | (have e_ := (Kd.N_reads' HO_7.out).1; omega)); obtain ⟨ua155_0, uc155_0, rfl, ul155_0, ge155_0⟩ := Kd.FK_slice_open hMe155; have hv155_0 := hcc155 0 _ rfl; rw [Nat.add_zero, show ((Kd.slice 5 (Kd.int .u8))).sz = 1 from rfl, Nat.mul_one] at hv155_0; replace hv155_0 := Option.some.inj (hv155_0.symm.trans hx155_0); injection hv155_0 with hva_ hvn_ hvc_; rw [hva_] at ge155_0; rw [hvc_] at ul155_0; have HL155_0 := Aside0.mk (show Kd.V (Kd.int .u8) 5 _ w.heap.size _ _ (rd_L2 t131 t151) from Kd.V_mk ul155_0 ge155_0); clear hva_ hvn_ hvc_ ge155_0 ul155_0; clear hcc155 hce155; have HR155_0 := Aside0.mk hi155_0; have HC155_0 := Aside0.mk hl155_0; clear hi155_0 hl155_0; replace p155 := eq_true p155; replace q155 := eq_true q155) | ((with_reducible refine gate_builtin (b := .append) (xs := #[.tmp 103, .tmp 107]) rfl ?_); (try (refine gate_guard (by rfl) ?_; dsimp only)); at_builtin; refine Kd.R_append_rows (Kd.int .u8) (w0 := w) w.heap.size rfl (.tmp 103) (.tmp 107) 22 5 (.int .u8 0) 1 rfl Try.underlying22 info5 rfl (by decide) (by omega) v153 y152 (rd_L2 t131 t151) _ _ _ (fun _ => True) (fun _ => False) rfl rfl ?aO ?aR (fun _ _ h => h) (fun _ h => h.elim) ?aF ?aB ?aS ?aL ?_; (case aR => repeat (first | exact (by repeat (first | (with_reducible exact HR155_0.out) | (with_reducible refine Kd.C_alloc ?_ _) | (with_reducible refine Kd.C_drewN ?_ _) | (with_reducible refine Kd.C_drew ?_) | exact HR155_0.out)) | (with_reducible refine Kd.C_alloc ?_ _) | (with_reducible refine Kd.C_drewN ?_ _) | (with_reducible refine Kd.C_drew ?_))); (case aB => exact (by repeat (first | (with_reducible first | exact HB.out | apply below_alloc | apply pw_below_drewN | apply below_drew1) | exact HB.out))); (case aF => exact (fun _ _ => trivial)); (case aO => exact (by (with_reducible repeat (first | apply Kd.R_alloc | apply Kd.R_drewN | apply Kd.R_drew)); exact HO154.out)); (case aS => exact (below_size (by repeat (first | (with_reducible first | exact HB.out | apply below_alloc | apply pw_below_drewN | apply below_drew1) | exact HB.out)))); (case aL => have := LMc98.out; omega); intro v157 w131 ho hb hg hat; rw [← Ny156.out] at ho; have n0_ := Aside0.mk (Kd.N_afterv (ok := (fun _ => True)) (by (with_reducible repeat (first | apply Kd.N_alloc | apply Kd.N_drewN | apply Kd.N_drew)); exact HO_7.out) hg hat); have n1_ := Aside0.mk (Kd.V_afterv (ok := (fun k_ => some k_ ≠ (.slice (some ad155) t131.length co17 : Value).ownBlock)) (by (with_reducible repeat (first | apply Kd.V_alloc | apply Kd.V_drewN | apply Kd.V_drew)); exact Kd.V_mono HL155_0.out (fun _ hk => ⟨hk.2, hk.1.2⟩)) hg hat); have n2_ := Aside0.mk (hb); have n3_ := Aside0.mk (ho); clear HO_7; clear HL155_0; clear HB; clear HO154; have HO_7 := n0_; have HL155_0 := n1_; have HB := n2_; have HO158 := n3_; clear n0_ n1_ n2_ n3_; clear ho hb hg hat) | ((with_reducible refine gate_builtin (b := .append) (xs := #[.tmp 108, .tmp 109]) rfl ?_); (try (refine gate_guard (by rfl) ?_; dsimp only)); at_builtin; refine Kd.R_append (Kd.int .u8) (w0 := w) w.heap.size rfl (.tmp 108) (.tmp 109) 22 5 (.int .u8 0) 1 rfl Try.underlying22 info5 rfl (by decide) (by omega) v157 y156 7 [.int .u8 7] (fun _ => True) (fun _ => False) rfl rfl ?aP (fun _ hk => hk.elim) ?aF ?aO ?aB ?aS ?aL ?_; (case aP => exact rfl); (case aB => exact (by repeat (first | (with_reducible first | exact HB.out | apply below_alloc | apply pw_below_drewN | apply below_drew1) | exact HB.out))); (case aF => exact (fun _ _ => trivial)); (case aO => exact (by (with_reducible repeat (first | apply Kd.R_alloc | apply Kd.R_drewN | apply Kd.R_drew)); exact HO158.out)); (case aS => exact (below_size (by repeat (first | (with_reducible first | exact HB.out | apply below_alloc | apply pw_below_drewN | apply below_drew1) | exact HB.out)))); (case aL => have := LMc99.out; omega); intro v160 w132 ho hb hg hat; rw [← Ny159.out] at ho; have n0_ := Aside0.mk (Kd.N_afterv (ok := (fun _ => True)) (by (with_reducible repeat (first | apply Kd.N_alloc | apply Kd.N_drewN | apply Kd.N_drew)); exact HO_7.out) hg hat); have n1_ := Aside0.mk (Kd.V_afterv (ok := (fun k_ => some k_ ≠ (.slice (some ad155) t131.length co17 : Value).ownBlock)) (by (with_reducible repeat (first | apply Kd.V_alloc | apply Kd.V_drewN | apply Kd.V_drew)); exact HL155_0.out) hg hat); have n2_ := Aside0.mk (hb); have n3_ := Aside0.mk (ho); clear HO_7; clear HL155_0; clear HB; clear HO158; have HO_7 := n0_; have HL155_0 := n1_; have HB := n2_; have HO161 := n3_; clear n0_ n1_ n2_ n3_; clear ho hb hg hat; have p100 : 0 ≤ (t151 : Int) := of_decide_eq_true (by first | (with_reducible assumption) | assumption); have q100 : (t151 : Int) < ((t131.length : Int) : Int) := of_decide_eq_true (by first | (with_reducible assumption) | assumption); obtain ⟨go100, co100, eo100, gb100, gl100, cl100, HG100⟩ := Kd.N_form HO_7.out (by omega); (first | cases eo100 | (injection eo100 with ea_ en_ ec_; (first | subst ea_ | (injection ea_ with ea_; subst ea_)); subst ec_; clear en_)); have GB100 := Aside0.mk gb100; have GG100 := Aside0.mk HG100; clear gb100 gl100 HG100; (first | simp only [add_plain] at hx155_0 | skip); obtain ⟨ce100, hcl100, hM100, hcc100, hfr100⟩ := Kd.N_elem HO_7.out [] (t151 : Int) p100 q100; obtain ⟨ua100_0, uc100_0, rfl, ul100_0, ge100_0⟩ := Kd.FK_slice_open hM100; have hx100_0 := hcc100 0 _ rfl; have hf100_0 := hfr100 0; (try simp only [show ((Kd.slice 5 (Kd.int .u8))).sz = 1 from rfl, Nat.mul_one, Nat.add_zero] at hx100_0); (try simp only [show ((Kd.slice 5 (Kd.int .u8))).sz = 1 from rfl, Nat.mul_one, Nat.add_zero] at hf100_0); clear hcl100 hcc100 hfr100 hM100; replace p100 := eq_true p100; replace q100 := eq_true q100; have n_ := Aside0.mk (Kd.N_mono (ok' := (fun k_ => some k_ ≠ (v160 : Value).ownBlock)) HO_7.out (fun k_ hk => hk.2)); clear HO_7; have HO_7 := n_; clear n_; have HX133 := Aside0.mk (show Kd.N (Kd.slice 5 (Kd.int .u8)) 22 w132 w.heap.size (fun _ => True) (.slice (some ⟨go100, 0, none⟩) t131.length co17) t131 from (by (with_reducible repeat (first | apply Kd.N_alloc | apply Kd.N_drewN | apply Kd.N_drew)); exact Kd.N_mono HO_7.out (fun _ hk => trivial))); obtain ⟨ce133, hcl133, hM133, hcc133, hfr133⟩ := Kd.N_elem HX133.out [] (t151 : Int) (of_decide_eq_true (by first | (with_reducible assumption) | assumption)) (by have h_ : (t151 : Int) < ((t131.length : Int) : Int) := of_decide_eq_true (by first | (with_reducible assumption) | assumption); first | exact h_ | (have e_ := (Kd.N_reads' HO_7.out).1; omega) | simpa using h_); obtain ⟨ua133_0, uc133_0, rfl, ul133_0, ge133_0⟩ := Kd.FK_slice_open hM133; have HP133 := Kd.N_seg HX133.out (t151 : Int) (of_decide_eq_true (by first | (with_reducible assumption) | assumption)) (by have h_ : (t151 : Int) < ((t131.length : Int) : Int) := of_decide_eq_true (by first | (with_reducible assumption) | assumption); first | exact h_ | (have e_ := (Kd.N_reads' HO_7.out).1; omega) | simpa using h_) (seg := [v160]) (j := 0) hcl133 hcc133 (show 1 ≤ 1 from by decide) (x' := y159) (by have h_ := (Kd.R_mono (ok' := (fun k_ => ((fun _ => True)) k_ ∧ k_ ≠ go100)) (Kd.R_apart' (HO161.out) (Kd.N_typed HO_7.out) (by decide)) (fun k_ hk => ⟨trivial, fun e_ => (hk.2) (by rw [e_]; rfl)⟩)); obtain ⟨A_, c_, e_⟩ := Kd.R_slice h_; subst e_; exact Kd.FK_slice_mk (Kd.R_reads' h_).2.1 (Kd.R_F h_)) (fun _ hk => hk); have hx133_0 := hcc133 0 _ rfl; (try simp only [show ((Kd.slice 5 (Kd.int .u8))).sz = 1 from rfl, Nat.mul_one, Nat.add_zero] at hx133_0); have hf133_0 := hfr133 0; (try simp only [show ((Kd.slice 5 (Kd.int .u8))).sz = 1 from rfl, Nat.mul_one, Nat.add_zero] at hf133_0); clear hcl133 hcc133 hfr133 hM133; (try simp only [show ((Kd.slice 5 (Kd.int .u8))).sz = 1 from rfl, Nat.mul_one, Nat.add_zero] at HP133); (try simp only [show ((Kd.slice 5 (Kd.int .u8))).sz = 1 from rfl, Nat.mul_one, Nat.add_zero] at HP133)) | ((with_reducible refine gate_store (t := 22) (p := 111) rfl ?_); refine store_event (t := 22) (p := 111) (v := ?vo_w134) (w1 := (w132.setCell ⟨go100, (t151 : Int).toNat, none⟩ (v160))) ?hg ?ho ?hn ?hr ?_; (case ho => rfl); (case hg => rfl); (case hn => rfl); (case hr => first | (go_simp; done) | (go_simp; rfl) | (obtain ⟨A_, c_, e_⟩ := Kd.R_slice HO161.out; rw [e_]; go_simp; done)); intro w134 hw; have hg : w132.grownBy w134 (some go100) := (by rw [hw]; exact HP133.2); have hp_ : Kd.N (Kd.slice 5 (Kd.int .u8)) 22 w134 w.heap.size (fun _ => True) (.slice (some ⟨go100, 0, none⟩) t131.length co17) y162 := (by rw [hw, Ny162.out]; exact HP133.1); clear HP133; have n0_ := Aside0.mk (hp_); have n1_ := Aside0.mk (Kd.V_afterv (v := (.slice (some ⟨go100, 0, none⟩) t131.length co17)) (v1 := (.slice (some ⟨go100, 0, none⟩) t131.length co17)) (ok := (fun k_ => some k_ ≠ (v160 : Value).ownBlock)) (by (with_reducible repeat (first | apply Kd.V_alloc | apply Kd.V_drewN | apply Kd.V_drew)); exact Kd.V_mono HL155_0.out (fun _ hk => ⟨hk.2, hk.1⟩)) hg (.inl rfl)); have n2_ := Aside0.mk ((by rw [hw]; exact below_set (HB.out) GB100.out : Below w.heap.size w w134)); clear HO_7; clear HL155_0; clear HB; clear HO161; have HO_7 := n0_; have HL155_0 := n1_; have HB := n2_; clear n0_ n1_ n2_; clear hg hw hp_) | ((with_reducible refine gate_callee (f := 22) rfl ?_); refine goesL_ (some 114) rfl rfl Try.func22 (by kernel_rfl) rfl #[.slice (some ⟨go100, 0, none⟩) y162.length co17, .slice none 0 0] rfl (by (try simp only [List.map_toArray, List.map_cons, List.map_nil]); first | done | (rw [show y162.length = t131.length from (Kd.N_reads' HO_7.out).1.symm] <;> rfl) | rfl | (simp only [List.length_drop, List.length_take]; rfl)) ?_; (refine (rs_Fix.calls _ _ y162 _ _ ([] : List Int) t163 false _ ?side1 ?side2 ?side3 ?side4 A101.out).mono ?_); (case side1 => repeat (first | exact (Kd.N_reads' HO_7.out).2.2 | (with_reducible refine Kd.C_alloc ?_ _) | (with_reducible refine Kd.C_drewN ?_ _) | (with_reducible refine Kd.C_drew ?_))); (case side2 => rw [show y162.length = t131.length from (Kd.N_reads' HO_7.out).1.symm]; exact (Kd.N_reads' HO_7.out).2.1); (case side3 => exact Kd.C_nil _ _); (case side4 => exact Nat.le_refl _); rintro e w135 ⟨v164, rfl, ho0, hb⟩; refine ⟨_, rfl, ?_⟩; have n0_ := Aside0.mk (Kd.N_elder' (by (with_reducible repeat (first | apply Kd.N_alloc | apply Kd.N_drewN | apply Kd.N_drew)); exact HO_7.out) (Kd.N_base ho0) hb); have n1_ := Aside0.mk (Kd.V_elder' (by (with_reducible repeat (first | apply Kd.V_alloc | apply Kd.V_drewN | apply Kd.V_drew)); exact HL155_0.out) (Kd.N_base ho0) hb); have n2_ := Aside0.mk (Kd.N_lower (Kd.N_mono (ok' := fun k_ => some k_ ≠ (.slice (some ⟨go100, 0, none⟩) t131.length co17 : Value).ownBlock) ho0 (fun k_ hk_ => (Kd.fresh' (Kd.N_lt (by (with_reducible repeat (first | apply Kd.N_alloc | apply Kd.N_drewN | apply Kd.N_drew)); exact HO_7.out)) k_ hk_))) (below_size (by repeat (first | (with_reducible first | exact HB.out | apply below_alloc | apply pw_below_drewN | apply below_drew1) | exact HB.out)))); have n3_ := Aside0.mk (below_step (by repeat (first | (with_reducible first | exact HB.out | apply below_alloc | apply pw_below_drewN | apply below_drew1) | exact HB.out)) hb); clear HO_7; clear HL155_0; clear HB; have HO_7 := n0_; have HL155_0 := n1_; have HO165 := n2_; have HB := n3_; clear n0_ n1_ n2_ n3_; (try clear hb); (try clear hb2); (try clear hk); (try clear hi); (try clear ho0)) | ((with_reducible refine gate_dst (N := 120) rfl ?_); (try (refine gate_guard (by rfl) ?_; dsimp only)); refine Kd.R_lit (Kd.int .i64) _ 3 ?hg (N := 120) ?hd (xs := ([t151] : List Int)) (inner := [.int .i64 t151]) (ok := fun _ => True) (okp := fun _ => True) ?hr ?hp (fun _ hk => hk) trivial (Below.refl _ _) (Nat.le_refl _) (by simp) ?_; (case hd => rfl); (case hg => rfl); (case hr => first | (go_simp; done) | (go_simp; rfl)); (case hp => exact (Reps.one (show Kd.M (Kd.int .i64) _ _ _ t151 [.int .i64 t151] from rfl) (Reps.none _ _))); intro v168 w136 ho137 hb hg_ hnew_; clear hg_ hnew_; (first | rw [← Ny167.out] at ho137 | (simp only [Int.reduceToNat] at ho137; rw [← Ny167.out] at ho137)); have n0_ := Aside0.mk (Kd.N_elder' (by (with_reducible repeat (first | apply Kd.N_alloc | apply Kd.N_drewN | apply Kd.N_drew)); exact HO_7.out) (Kd.R_base ho137) hb); have n1_ := Aside0.mk (Kd.V_elder' (by (with_reducible repeat (first | apply Kd.V_alloc | apply Kd.V_drewN | apply Kd.V_drew)); exact HL155_0.out) (Kd.R_base ho137) hb); have n2_ := Aside0.mk (Kd.N_elder' (by (with_reducible repeat (first | apply Kd.N_alloc | apply Kd.N_drewN | apply Kd.N_drew)); exact HO165.out) (Kd.R_base ho137) hb); have n3_ := Aside0.mk (Kd.R_lower ho137 (below_size (by repeat (first | (with_reducible first | exact HB.out | apply below_alloc | apply pw_below_drewN | apply below_drew1) | exact HB.out)))); have n4_ := Aside0.mk (below_step (by repeat (first | (with_reducible first | exact HB.out | apply below_alloc | apply pw_below_drewN | apply below_drew1) | exact HB.out)) hb); clear HO_7; clear HL155_0; clear HO165; clear HB; have HO_7 := n0_; have HL155_0 := n1_; have HO165 := n2_; have HO169 := n3_; have HB := n4_; clear n0_ n1_ n2_ n3_ n4_; clear hb ho137; obtain ⟨Ao138, co138, eo138⟩ := Kd.R_slice HO169.out; subst eo138) | ((with_reducible refine gate_callee (f := 22) rfl ?_); refine goesL_ (some 121) rfl rfl Try.func22 (by kernel_rfl) rfl #[.slice (some ⟨go100, 0, none⟩) y162.length co17, .slice Ao138 y167.length co138] rfl (by (try simp only [List.map_toArray, List.map_cons, List.map_nil]); first | done | (rw [show y162.length = t131.length from (Kd.N_reads' HO_7.out).1.symm] <;> rfl) | rfl | (simp only [List.length_drop, List.length_take]; rfl)) ?_; (with_reducible refine (rs_Fix.calls _ _ y162 _ _ y167 t170 false _ ?side1 ?side2 ?side3 ?side4 A102.out).mono ?_); (case side1 => repeat (first | exact (Kd.N_reads' HO_7.out).2.2 | (with_reducible refine Kd.C_alloc ?_ _) | (with_reducible refine Kd.C_drewN ?_ _) | (with_reducible refine Kd.C_drew ?_))); (case side2 => rw [show y162.length = t131.length from (Kd.N_reads' HO_7.out).1.symm]; exact (Kd.N_reads' HO_7.out).2.1); (case side3 => repeat (first | exact (Kd.R_reads' HO169.out).2.2 | (with_reducible refine Kd.C_alloc ?_ _) | (with_reducible refine Kd.C_drewN ?_ _) | (with_reducible refine Kd.C_drew ?_))); (case side4 => exact (Kd.R_reads' HO169.out).2.1); rintro e w139 ⟨v171, rfl, ho0, hb⟩; refine ⟨_, rfl, ?_⟩; have n0_ := Aside0.mk (Kd.N_elder' (by (with_reducible repeat (first | apply Kd.N_alloc | apply Kd.N_drewN | apply Kd.N_drew)); exact HO_7.out) (Kd.N_base ho0) hb); have n1_ := Aside0.mk (Kd.V_elder' (by (with_reducible repeat (first | apply Kd.V_alloc | apply Kd.V_drewN | apply Kd.V_drew)); exact HL155_0.out) (Kd.N_base ho0) hb); have n2_ := Aside0.mk (Kd.N_elder' (by (with_reducible repeat (first | apply Kd.N_alloc | apply Kd.N_drewN | apply Kd.N_drew)); exact HO165.out) (Kd.N_base ho0) hb); have n3_ := Aside0.mk (Kd.R_below (by (with_reducible repeat (first | apply Kd.R_alloc | apply Kd.R_drewN | apply Kd.R_drew)); exact HO169.out) hb); have n4_ := Aside0.mk (Kd.N_lower (Kd.N_mono (ok' := fun k_ => some k_ ≠ (.slice (some ⟨go100, 0, none⟩) t131.length co17 : Value).ownBlock ∧ some k_ ≠ (v164 : Value).ownBlock ∧ some k_ ≠ (.slice Ao138 y167.length co138 : Value).ownBlock) ho0 (fun k_ hk_ => ⟨(Kd.fresh' (Kd.N_lt (by (with_reducible repeat (first | apply Kd.N_alloc | apply Kd.N_drewN | apply Kd.N_drew)); exact HO_7.out)) k_ hk_), (Kd.fresh' (Kd.N_lt (by (with_reducible repeat (first | apply Kd.N_alloc | apply Kd.N_drewN | apply Kd.N_drew)); exact HO165.out)) k_ hk_), (Kd.fresh' (Kd.R_lt (by (with_reducible repeat (first | apply Kd.R_alloc | apply Kd.R_drewN | apply Kd.R_drew)); exact HO169.out)) k_ hk_)⟩)) (below_size (by repeat (first | (with_reducible first | exact HB.out | apply below_alloc | apply pw_below_drewN | apply below_drew1) | exact HB.out)))); have n5_ := Aside0.mk (below_step (by repeat (first | (with_reducible first | exact HB.out | apply below_alloc | apply pw_below_drewN | apply below_drew1) | exact HB.out)) hb); clear HO_7; clear HL155_0; clear HO165; clear HO169; clear HB; have HO_7 := n0_; have HL155_0 := n1_; have HO165 := n2_; have HO169 := n3_; have HO172 := n4_; have HB := n5_; clear n0_ n1_ n2_ n3_ n4_ n5_; (try clear hb); (try clear hb2); (try clear hk); (try clear hi); (try clear ho0)))
                                go_ret
                                exact ⟨by first | rfl | (simp [errW_none, errW_some] <;> rfl) | (simp [*, errW_none, errW_some] <;> rfl), by repeat (first | (with_reducible first | exact HB.out | apply below_alloc | apply pw_below_drewN | apply below_drew1) | exact HB.out)⟩
                          · rw [if_neg c99] at H
                            exact absurd H (by simp)
                        · rw [if_neg c98] at H
                          exact absurd H (by simp)
                      · rw [if_neg c97] at H
                        exact absurd H (by simp)
                    · rw [if_neg c96] at H
                      exact absurd H (by simp)
  · replace c5 := Bool.eq_false_iff.mpr c5
    subst c5
    have H1 : (some false) = some r := by rw [if_neg (show ¬ (false = true) by decide)] at H; exact H
    clear H
    have H := H1
    clear H1
    obtain rfl := Option.some.inj H
    go_enter Try.func10, Try.ntmps10
    go_wp2_with (first | ((with_reducible refine gate_callee (f := 11) rfl ?_); refine goesL_ (some 18) rfl rfl Try.func11 (by kernel_rfl) rfl #[] rfl (by (try simp only [List.map_toArray, List.map_cons, List.map_nil]); first | done | rfl | (simp only [List.length_drop, List.length_take]; rfl)) ?_; (with_reducible refine (ramekinlaw5_known.calls  false _ A4.out).mono ?_); rintro e w140 ⟨rfl, hb⟩; refine ⟨_, rfl, ?_⟩; have n0_ := Aside0.mk (below_step (by repeat (first | (with_reducible first | exact HB.out | apply below_alloc | apply pw_below_drewN | apply below_drew1) | exact HB.out)) hb); clear HB; have HB := n0_; clear n0_; (try clear hb); (try clear hb2); (try clear hk); (try clear hi)))
    go_ret
    exact ⟨by first | rfl | (simp [errW_none, errW_some] <;> rfl) | (simp [*, errW_none, errW_some] <;> rfl), by repeat (first | (with_reducible first | exact HB.out | apply below_alloc | apply pw_below_drewN | apply below_drew1) | exact HB.out)⟩

/-- THE ONE PURE STATEMENT of ramekinlaw5_RsBounds: yours. -/
def ramekinlaw5_RsBounds.Pure : Prop := ∀ (a0 : Int) (a1 : Int) (a2 : Int), (Lit.int .i64 a0).wf = true → (Lit.int .i64 a1).wf = true → (Lit.int .i64 a2).wf = true → ∃ k, ramekinlaw5_RsBounds.f k a0 a1 a2 = some true
theorem ramekinlaw5_RsBounds.walk (P : ramekinlaw5_RsBounds.Pure) (a0 : Int) (a1 : Int) (a2 : Int) (w : World) (w0 : (Lit.int .i64 a0).wf = true) (w1 : (Lit.int .i64 a1).wf = true) (w2 : (Lit.int .i64 a2).wf = true) :
    Calls Try.prog 10 #[.int .i64 a0, .int .i64 a1, .int .i64 a2] w fun e w' => e = .returned (.bool true) ∧ Below w.heap.size w w' := by
  obtain ⟨k, h⟩ := P a0 a1 a2 w0 w1 w2
  refine (ramekinlaw5_RsBounds.calls k a0 a1 a2 true w h).mono ?_
  rintro e w' ⟨rfl, hd⟩
  exact ⟨rfl, hd⟩

end Go.Proofs.Ytdbnladpogpiiaa.PRu
