/-
  Functions of the program as plain Lean functions, each with a proof that its call does what that function says. Written by a program of mine (pr.py), which calls a scratch copy of the kit's print.
-/
import Derived.Test.YtibileffpgnjhaaPRqx2
import Derived.Test.YtibileffpgnjhaaLim
import Derived.Test.YtibileffpgnjhaaPRqx4
import Derived.Test.YtibileffpgnjhaaPRrx0
import Derived.Test.YtibileffpgnjhaaPRrx2
namespace Go.Proofs.Ytibileffpgnjhaa.PRr
open Go.RowKit Go.Proofs.YtibileffpgnjhaaW.PrintWords Go.Proofs.YtibileffpgnjhaaW.PrintLast Go.Proofs.YtibileffpgnjhaaW.PrintMore
attribute [local go_sem] max2_int min2_int max_two min_two max_three min_three max_four min_four   -- for this text's walks alone
set_option linter.unusedVariables false
set_option linter.unusedSimpArgs false

/-! ### rs_Parity: function 30 (by hand) -/
noncomputable def rs_Parity.f (l0 : List (List Int)) : Option (List Int × List Int) := Lim.lim (fun k_ => PRq.rs_Parity.f k_ l0)
theorem rs_Parity.calls (A0 : Option Addr) (c0 : Nat) (l0 : List (List Int)) (r1 : List Int) (r2 : List Int) (w : World) (hr0 : Kd.C (Kd.slice 5 (Kd.int .u8)) w A0 l0.length l0) (hc0 : l0.length ≤ c0) (h : rs_Parity.f l0 = some (r1, r2)) :
    Calls Try.prog 30 #[.slice A0 l0.length c0] w fun e w' => ∃ v0_ v1_ : Value, e = .returned (.tuple #[v0_, v1_]) ∧ Kd.R (Kd.int .u8) 5 w' w.heap.size (fun k_ => some k_ ≠ (v1_ : Value).ownBlock) v0_ r1 ∧ Kd.R (Kd.int .u8) 5 w' w.heap.size (fun k_ => some k_ ≠ (v0_ : Value).ownBlock) v1_ r2 ∧ Below w.heap.size w w' := by
  obtain ⟨k_, hk_⟩ := Lim.lim_some h
  first
  | exact PRq.rs_Parity.calls k_ A0 c0 l0 r1 r2 w hr0 hc0 hk_
  | exact (PRq.rs_Parity.calls k_ A0 c0 l0 r1 r2 w hr0 hc0 hk_).mono (fun _ _ h_ => ⟨h_.1, Lim.below_of_drewN h_.2⟩)

/-! ### rs_alike: function 50 -/
noncomputable def rs_alike.l0 : Nat → Int → List (List Int) → Int → Int → Option (Int × Bool)
  | 0, _, _, _, _ => none
  | k + 1, x4, x7, x8, x9 => if x9 < x8 then (if 0 ≤ x9 then (if x9 < (x7.length : Int) then (if x9 > 0 then (if ((rd_L1 x7 x9).length : Int) = x4 then (rs_alike.l0 k ((rd_L1 x7 x9).length : Int) x7 x8 (wrap64 (x9 + 1))) else (some (0, false))) else (rs_alike.l0 k ((rd_L1 x7 x9).length : Int) x7 x8 (wrap64 (x9 + 1)))) else (none)) else (none)) else (some (x4, true))
noncomputable def rs_alike.f (k : Nat) (l0 : List (List Int)) : Option (Int × Bool) := rs_alike.l0 k 0 l0 (l0.length : Int) 0
theorem rs_alike.mono_l : ∀ k, (∀ y0 y1 y2 y3, LeO (rs_alike.l0 k y0 y1 y2 y3) (rs_alike.l0 (k + 1) y0 y1 y2 y3))
  | 0 => fun _ _ _ _ r h => by simp [rs_alike.l0] at h
  | k + 1 => by
    have ih0 := rs_alike.mono_l k
    · intro y0 y1 y2 y3
      unfold rs_alike.l0
      repeat' first
      | (with_reducible exact ih0 _ _ _ _)
      | (with_reducible exact LeO.refl _)
      | (with_reducible exact LeO.none _)
      | (with_reducible refine LeO.ite ?_ ?_)
      | (with_reducible refine LeO.bind ?_ (fun _ => ?_))
      | exact ih0 _ _ _ _
      | exact LeO.none _
      | refine LeO.ite ?_ ?_
      | refine LeO.bind ?_ (fun _ => ?_)
theorem rs_alike.mono : ∀ a0 k, LeO (rs_alike.f k a0) (rs_alike.f (k + 1) a0) := by
  intro a0 k
  have ih0 := rs_alike.mono_l k
  unfold rs_alike.f
  repeat' first
      | (with_reducible exact ih0 _ _ _ _)
      | (with_reducible exact LeO.refl _)
      | (with_reducible exact LeO.none _)
      | (with_reducible refine LeO.ite ?_ ?_)
      | (with_reducible refine LeO.bind ?_ (fun _ => ?_))
      | exact ih0 _ _ _ _
      | exact LeO.none _
      | refine LeO.ite ?_ ?_
      | refine LeO.bind ?_ (fun _ => ?_)
set_option maxHeartbeats 8000000 in
set_option maxRecDepth 100000 in
theorem rs_alike.calls (k : Nat) (A0 : Option Addr) (c0 : Nat) (l0 : List (List Int)) (r1 : Int) (r2 : Bool) (w : World) (hr0 : Kd.C (Kd.slice 5 (Kd.int .u8)) w A0 l0.length l0) (hc0 : l0.length ≤ c0) (h : rs_alike.f k l0 = some (r1, r2)) :
    Calls Try.prog 50 #[.slice A0 l0.length c0] w fun e w' => e = .returned (.tuple #[.int .i64 r1, .bool r2]) ∧ Drawn0 w w' := by
  have HR0 := Aside0.mk hr0
  have HC0 := Aside0.mk hc0
  clear hr0 hc0
  have H : (rs_alike.l0 k 0 l0 (l0.length : Int) 0) = some (r1, r2) := h
  clear h
  have H' := Aside0.mk H
  clear H
  go_enter Try.func50, Try.ntmps50
  go_wp2
  go_loopg [4, 9] k (fun kq v4 v9 w' => ∃ (x4_1 : Int) (x9_1 : Int), v4 = .int .i64 x4_1 ∧ v9 = .int .i64 x9_1 ∧ Aside0 (rs_alike.l0 kq x4_1 l0 (l0.length : Int) x9_1 = some (r1, r2)) ∧ Aside0 (kq ≤ k) ∧ Drawn0 w w')
  case atStart => exact ⟨(0), (0), (by first | rfl | (simp; done) | (simp [*]; done)), (by first | rfl | (simp; done) | (simp [*]; done)), H', ⟨Nat.le_refl _⟩, by repeat (first | exact Drawn0.refl _ | apply Drawn0.step)⟩
  case round =>
    clear H'
    obtain ⟨x4_1, x9_1, rfl, rfl, HA, HK1, ⟨m1, rfl⟩⟩ := hrel
    cases gk with
    | zero => exact absurd HA.out (by simp [rs_alike.l0])
    | succ k1 =>
      have H := HA.out
      clear HA
      simp only [rs_alike.l0] at H
      by_cases c2 : x9_1 < (l0.length : Int)
      · rw [if_pos c2] at H
        have c2b0 : decide (x9_1 < (l0.length : Int)) = true := decide_eq_true c2
        clear c2
        by_cases c3 : 0 ≤ x9_1
        · rw [if_pos c3] at H
          have c3b0 : decide (0 ≤ x9_1) = true := decide_eq_true c3
          clear c3
          by_cases c4 : x9_1 < (l0.length : Int)
          · rw [if_pos c4] at H
            have c4b0 : decide (x9_1 < (l0.length : Int)) = true := decide_eq_true c4
            clear c4
            by_cases c5 : x9_1 > 0
            · rw [if_pos c5] at H
              have c5b0 : decide (0 < x9_1) = true := decide_eq_true c5
              clear c5
              by_cases c6 : ((rd_L1 l0 x9_1).length : Int) = x4_1
              · rw [if_pos c6] at H
                have c6b0 : (((rd_L1 l0 x9_1).length : Int) == x4_1) = true := beq_iff_eq.mpr c6
                have c6b1 : (((rd_L1 l0 x9_1).length : Int) != x4_1) = false := bne_eq_false_iff_eq.mpr c6
                clear c6
                have H' := Aside0.mk H
                clear H
                have p136 : 0 ≤ (x9_1 : Int) := of_decide_eq_true (by first | (with_reducible assumption) | assumption)
                have q136 : x9_1 < (l0.length : Int) := of_decide_eq_true (by first | (with_reducible assumption) | assumption)
                obtain ⟨ad136, A136_0, c136_0, e136, hx136_0, hl136_0, hi136_0⟩ := at_L1 HR0.out x9_1 p136 q136
                cases e136
                have HR136_0 := Aside0.mk hi136_0
                have HC136_0 := Aside0.mk hl136_0
                clear hi136_0 hl136_0
                replace p136 := eq_true p136
                replace q136 := eq_true q136
                go_wp2
                go_roundg k1
                case measure => have := HK1.out; omega
                case rel => exact ⟨(((rd_L1 l0 x9_1).length : Int)), (wrap64 (x9_1 + 1)), (by first | rfl | (simp; done) | (simp [*]; done)), (by first | rfl | (simp; done) | (simp [*]; done)), H', ⟨by have := HK1.out; omega⟩, by repeat (first | exact Drawn0.refl _ | apply Drawn0.step)⟩
              · rw [if_neg c6] at H
                have c6b0 : (((rd_L1 l0 x9_1).length : Int) == x4_1) = false := beq_eq_false_iff_ne.mpr c6
                have c6b1 : (((rd_L1 l0 x9_1).length : Int) != x4_1) = true := bne_iff_ne.mpr c6
                simp only [Option.some.injEq, Prod.mk.injEq] at H
                obtain ⟨rfl, rfl⟩ := H
                have p136 : 0 ≤ (x9_1 : Int) := of_decide_eq_true (by first | (with_reducible assumption) | assumption)
                have q136 : x9_1 < (l0.length : Int) := of_decide_eq_true (by first | (with_reducible assumption) | assumption)
                obtain ⟨ad136, A136_0, c136_0, e136, hx136_0, hl136_0, hi136_0⟩ := at_L1 HR0.out x9_1 p136 q136
                cases e136
                have HR136_0 := Aside0.mk hi136_0
                have HC136_0 := Aside0.mk hl136_0
                clear hi136_0 hl136_0
                replace p136 := eq_true p136
                replace q136 := eq_true q136
                go_wp2
                go_ret2
                exact ⟨by first | rfl | (simp; done) | (simp [*]; done), by repeat (first | exact Drawn0.refl _ | apply Drawn0.step)⟩
            · rw [if_neg c5] at H
              have c5b0 : decide (0 < x9_1) = false := decide_eq_false c5
              clear c5
              have H' := Aside0.mk H
              clear H
              have p136 : 0 ≤ (x9_1 : Int) := of_decide_eq_true (by first | (with_reducible assumption) | assumption)
              have q136 : x9_1 < (l0.length : Int) := of_decide_eq_true (by first | (with_reducible assumption) | assumption)
              obtain ⟨ad136, A136_0, c136_0, e136, hx136_0, hl136_0, hi136_0⟩ := at_L1 HR0.out x9_1 p136 q136
              cases e136
              have HR136_0 := Aside0.mk hi136_0
              have HC136_0 := Aside0.mk hl136_0
              clear hi136_0 hl136_0
              replace p136 := eq_true p136
              replace q136 := eq_true q136
              go_wp2
              go_roundg k1
              case measure => have := HK1.out; omega
              case rel => exact ⟨(((rd_L1 l0 x9_1).length : Int)), (wrap64 (x9_1 + 1)), (by first | rfl | (simp; done) | (simp [*]; done)), (by first | rfl | (simp; done) | (simp [*]; done)), H', ⟨by have := HK1.out; omega⟩, by repeat (first | exact Drawn0.refl _ | apply Drawn0.step)⟩
          · rw [if_neg c4] at H
            exact absurd H (by simp)
        · rw [if_neg c3] at H
          exact absurd H (by simp)
      · rw [if_neg c2] at H
        have c2b0 : decide (x9_1 < (l0.length : Int)) = false := decide_eq_false c2
        clear c2
        simp only [Option.some.injEq, Prod.mk.injEq] at H
        obtain ⟨rfl, rfl⟩ := H
        go_wp2
        go_ret2
        exact ⟨by first | rfl | (simp; done) | (simp [*]; done), by repeat (first | exact Drawn0.refl _ | apply Drawn0.step)⟩

/-! ### slices_Equal_byte_byte: function 73 (by hand) -/
noncomputable def slices_Equal_byte_byte.f (l0 : List Int) (l1 : List Int) : Option (Bool) := Lim.lim (fun k_ => PRq.slices_Equal_byte_byte.f k_ l0 l1)
theorem slices_Equal_byte_byte.calls (A0 : Option Addr) (c0 : Nat) (l0 : List Int) (A1 : Option Addr) (c1 : Nat) (l1 : List Int) (r : Bool) (w : World) (hr0 : Kd.C (Kd.int .u8) w A0 l0.length l0) (hc0 : l0.length ≤ c0) (hr1 : Kd.C (Kd.int .u8) w A1 l1.length l1) (hc1 : l1.length ≤ c1) (h : slices_Equal_byte_byte.f l0 l1 = some r) :
    Calls Try.prog 73 #[.slice A0 l0.length c0, .slice A1 l1.length c1] w fun e w' => e = .returned (.bool r) ∧ Drawn0 w w' := by
  obtain ⟨k_, hk_⟩ := Lim.lim_some h
  first
  | exact PRq.slices_Equal_byte_byte.calls k_ A0 c0 l0 A1 c1 l1 r w hr0 hc0 hr1 hc1 hk_
  | exact (PRq.slices_Equal_byte_byte.calls k_ A0 c0 l0 A1 c1 l1 r w hr0 hc0 hr1 hc1 hk_).mono (fun _ _ h_ => ⟨h_.1, Lim.below_of_drewN h_.2⟩)

/-! ### rs_Check: function 59 -/
noncomputable def rs_Check.j0 : Nat → List (List Int) → Bool → Option (Bool)
  | 0, _, _ => none
  | k + 1, x0, x24 => if x24 = true then (some false) else (if 0 ≤ (wrap64 ((x0.length : Int) - 2)) then (if (wrap64 ((x0.length : Int) - 2)) ≤ (x0.length : Int) then ((rs_Parity.f (x0.take ((wrap64 ((x0.length : Int) - 2)) : Int).toNat)).bind fun bt143 => (if (wrap64 ((x0.length : Int) - 2)) < (x0.length : Int) then ((slices_Equal_byte_byte.f bt143.1 (rd_L1 x0 (wrap64 ((x0.length : Int) - 2)))).bind fun t150 => (if t150 = true then (if 0 ≤ (wrap64 ((wrap64 ((x0.length : Int) - 2)) + 1)) then (if (wrap64 ((wrap64 ((x0.length : Int) - 2)) + 1)) < (x0.length : Int) then ((slices_Equal_byte_byte.f bt143.2 (rd_L1 x0 (wrap64 ((wrap64 ((x0.length : Int) - 2)) + 1)))).bind fun t152 => (some t152)) else (none)) else (none)) else (some false))) else (none))) else (none)) else (none))
noncomputable def rs_Check.f (k : Nat) (l0 : List (List Int)) : Option (Bool) := (rs_alike.f k l0).bind fun bt137 => (if bt137.2 = true then (if (l0.length : Int) < 4 then (rs_Check.j0 k l0 true) else (rs_Check.j0 k l0 (decide ((l0.length : Int) > 16)))) else (rs_Check.j0 k l0 true))
theorem rs_Check.mono_l : ∀ k, (∀ y0 y1, LeO (rs_Check.j0 k y0 y1) (rs_Check.j0 (k + 1) y0 y1))
  | 0 => fun _ _ r h => by simp [rs_Check.j0] at h
  | k + 1 => by
    have ih0 := rs_Check.mono_l k
    · intro y0 y1
      unfold rs_Check.j0
      repeat' first
      | (with_reducible exact ih0 _ _)
      | (with_reducible exact rs_alike.mono _ _)
      | (with_reducible exact LeO.refl _)
      | (with_reducible exact LeO.none _)
      | (with_reducible refine LeO.ite ?_ ?_)
      | (with_reducible refine LeO.bind ?_ (fun _ => ?_))
      | exact ih0 _ _
      | exact rs_alike.mono _ _
      | exact LeO.none _
      | refine LeO.ite ?_ ?_
      | refine LeO.bind ?_ (fun _ => ?_)
theorem rs_Check.mono : ∀ a0 k, LeO (rs_Check.f k a0) (rs_Check.f (k + 1) a0) := by
  intro a0 k
  have ih0 := rs_Check.mono_l k
  unfold rs_Check.f
  repeat' first
      | (with_reducible exact ih0 _ _)
      | (with_reducible exact rs_alike.mono _ _)
      | (with_reducible exact LeO.refl _)
      | (with_reducible exact LeO.none _)
      | (with_reducible refine LeO.ite ?_ ?_)
      | (with_reducible refine LeO.bind ?_ (fun _ => ?_))
      | exact ih0 _ _
      | exact rs_alike.mono _ _
      | exact LeO.none _
      | refine LeO.ite ?_ ?_
      | refine LeO.bind ?_ (fun _ => ?_)
set_option maxHeartbeats 8000000 in
set_option maxRecDepth 100000 in
theorem rs_Check.calls (k : Nat) (A0 : Option Addr) (c0 : Nat) (l0 : List (List Int)) (r : Bool) (w : World) (hr0 : Kd.C (Kd.slice 5 (Kd.int .u8)) w A0 l0.length l0) (hc0 : l0.length ≤ c0) (h : rs_Check.f k l0 = some r) :
    Calls Try.prog 59 #[.slice A0 l0.length c0] w fun e w' => e = .returned (.bool r) ∧ Below w.heap.size w w' := by
  have HR0 := Aside0.mk hr0
  have HC0 := Aside0.mk hc0
  clear hr0 hc0
  have HB := Aside0.mk (Below.refl w.heap.size w)
  have H : ((rs_alike.f k l0).bind fun bt137 => (if bt137.2 = true then (if (l0.length : Int) < 4 then (rs_Check.j0 k l0 true) else (rs_Check.j0 k l0 (decide ((l0.length : Int) > 16)))) else (rs_Check.j0 k l0 true))) = some r := h
  clear h
  replace H := Option.bind_eq_some_iff.mp H
  obtain ⟨⟨t137, t138⟩, A20, H⟩ := H
  replace H : (if t138 = true then (if (l0.length : Int) < 4 then (rs_Check.j0 k l0 true) else (rs_Check.j0 k l0 (decide ((l0.length : Int) > 16)))) else (rs_Check.j0 k l0 true)) = some r := H
  have A2 := Aside0.mk A20
  clear A20
  have HC3 := Aside0.mk H
  clear H
  go_enter Try.func59, Try.ntmps59
  go_upto_region 2 with (first | ((with_reducible refine gate_callee (f := 50) rfl ?_); refine goesL_ (some 10) rfl rfl Try.func50 (by kernel_rfl) rfl #[.slice A0 l0.length c0] rfl (by (try simp only [List.map_toArray, List.map_cons, List.map_nil]); first | done | rfl | (simp only [List.length_drop, List.length_take]; rfl)) ?_; (with_reducible refine (rs_alike.calls k _ _ l0 t137 t138 _ ?side1 ?side2 A2.out).mono ?_); (case side1 => repeat (first | exact HR0.out | (with_reducible refine Kd.C_alloc ?_ _) | (with_reducible refine Kd.C_drewN ?_ _) | (with_reducible refine Kd.C_drew ?_))); (case side2 => exact HC0.out); rintro e w' ⟨rfl, ⟨nd, rfl⟩⟩; refine ⟨_, rfl, ?_⟩))
  (try simp only [Act.put, List.setIfInBounds_toArray, List.set_cons_zero, List.set_cons_succ])
  go_cut [24] (fun v24 wc => ∃ (kq : Nat) (x24_2 : Bool), v24 = .bool x24_2 ∧ Aside0 (rs_Check.j0 kq l0 x24_2 = some r) ∧ Aside0 (kq ≤ k) ∧ Aside0 (Below w.heap.size w wc))
  case first =>
    have H := HC3.out
    clear HC3
    by_cases c4 : t138 = true
    · subst c4
      have H1 : (if (l0.length : Int) < 4 then (rs_Check.j0 k l0 true) else (rs_Check.j0 k l0 (decide ((l0.length : Int) > 16)))) = some r := by rw [if_pos rfl] at H; exact H
      clear H
      have H := H1
      clear H1
      by_cases c5 : (l0.length : Int) < 4
      · rw [if_pos c5] at H
        have c5b0 : decide ((l0.length : Int) < 4) = true := decide_eq_true c5
        have c5b1 : decide (l0.length < 4) = true := decide_eq_true (by omega)
        clear c5
        (first | rw [c5b0] | (simp only [i64_w, i32_w]; rw [c5b0]) | skip)
        have H' := Aside0.mk H
        clear H
        go_wp2
        go_meet
        case rel => exact ⟨_, (true), (by first | rfl | (simp; done) | (simp [*]; done)), H', ⟨by first | omega | exact Nat.le_refl _⟩, ⟨by repeat (first | (with_reducible first | exact HB.out | apply below_alloc | apply pw_below_drewN | apply below_drew1) | exact HB.out)⟩⟩
      · rw [if_neg c5] at H
        have c5b0 : decide ((l0.length : Int) < 4) = false := decide_eq_false c5
        have c5b1 : decide (l0.length < 4) = false := decide_eq_false (by omega)
        clear c5
        (first | rw [c5b0] | (simp only [i64_w, i32_w]; rw [c5b0]) | skip)
        have H' := Aside0.mk H
        clear H
        go_wp2
        go_meet
        case rel => exact ⟨_, (decide ((l0.length : Int) > 16)), (by first | rfl | (simp; done) | (simp [*]; done)), H', ⟨by first | omega | exact Nat.le_refl _⟩, ⟨by repeat (first | (with_reducible first | exact HB.out | apply below_alloc | apply pw_below_drewN | apply below_drew1) | exact HB.out)⟩⟩
    · replace c4 := Bool.eq_false_iff.mpr c4
      subst c4
      have H1 : (rs_Check.j0 k l0 true) = some r := by rw [if_neg (show ¬ (false = true) by decide)] at H; exact H
      clear H
      have H := H1
      clear H1
      have H' := Aside0.mk H
      clear H
      go_wp2
      go_meet
      case rel => exact ⟨_, (true), (by first | rfl | (simp; done) | (simp [*]; done)), H', ⟨by first | omega | exact Nat.le_refl _⟩, ⟨by repeat (first | (with_reducible first | exact HB.out | apply below_alloc | apply pw_below_drewN | apply below_drew1) | exact HB.out)⟩⟩
  case rest =>
    clear HC3
    try clear p2
    try clear c4
    try clear c5
    try clear c5b0
    try clear c5b1
    obtain ⟨kq, x24_2, rfl, HA, HJ2, HB⟩ := hcut
    cases kq with
    | zero => exact absurd HA.out (by simp [rs_Check.j0])
    | succ kj2 =>
      have H := HA.out
      clear HA
      simp only [rs_Check.j0] at H
      by_cases c6 : x24_2 = true
      · subst c6
        have H1 : (some false) = some r := by rw [if_pos rfl] at H; exact H
        clear H
        have H := H1
        clear H1
        obtain rfl := Option.some.inj H
        go_wp2
        go_ret
        exact ⟨by first | rfl | (simp [errW_none, errW_some] <;> rfl) | (simp [*, errW_none, errW_some] <;> rfl), by repeat (first | (with_reducible first | exact HB.out | apply below_alloc | apply pw_below_drewN | apply below_drew1) | exact HB.out)⟩
      · replace c6 := Bool.eq_false_iff.mpr c6
        subst c6
        have H1 : (if 0 ≤ (wrap64 ((l0.length : Int) - 2)) then (if (wrap64 ((l0.length : Int) - 2)) ≤ (l0.length : Int) then ((rs_Parity.f (l0.take ((wrap64 ((l0.length : Int) - 2)) : Int).toNat)).bind fun bt143 => (if (wrap64 ((l0.length : Int) - 2)) < (l0.length : Int) then ((slices_Equal_byte_byte.f bt143.1 (rd_L1 l0 (wrap64 ((l0.length : Int) - 2)))).bind fun t150 => (if t150 = true then (if 0 ≤ (wrap64 ((wrap64 ((l0.length : Int) - 2)) + 1)) then (if (wrap64 ((wrap64 ((l0.length : Int) - 2)) + 1)) < (l0.length : Int) then ((slices_Equal_byte_byte.f bt143.2 (rd_L1 l0 (wrap64 ((wrap64 ((l0.length : Int) - 2)) + 1)))).bind fun t152 => (some t152)) else (none)) else (none)) else (some false))) else (none))) else (none)) else (none)) = some r := by rw [if_neg (show ¬ (false = true) by decide)] at H; exact H
        clear H
        have H := H1
        clear H1
        obtain ⟨ji7, hji7⟩ : ∃ j_ : Int, (wrap64 ((l0.length : Int) - 2)) = j_ := ⟨_, rfl⟩
        replace H : (if 0 ≤ (ji7) then (if (ji7) ≤ (l0.length : Int) then ((rs_Parity.f (l0.take ((ji7) : Int).toNat)).bind fun bt143 => (if (ji7) < (l0.length : Int) then ((slices_Equal_byte_byte.f bt143.1 (rd_L1 l0 (ji7))).bind fun t150 => (if t150 = true then (if 0 ≤ (wrap64 ((ji7) + 1)) then (if (wrap64 ((ji7) + 1)) < (l0.length : Int) then ((slices_Equal_byte_byte.f bt143.2 (rd_L1 l0 (wrap64 ((ji7) + 1)))).bind fun t152 => (some t152)) else (none)) else (none)) else (some false))) else (none))) else (none)) else (none)) = some r := by first | (rw [hji7] at H; exact H) | (simp only [hji7] at H ⊢; exact H)
        have hji7w : (IntKind.i64.wrap ((l0.length : Int) - 2)) = ji7 := (i64_w _).trans hji7
        by_cases c8 : 0 ≤ (ji7)
        · rw [if_pos c8] at H
          have c8b0 := eq_true c8
          have c8b1 : decide (0 ≤ (ji7)) = true := decide_eq_true c8
          clear c8
          by_cases c9 : (ji7) ≤ (l0.length : Int)
          · rw [if_pos c9] at H
            have c9b0 := eq_true c9
            have c9b1 : decide ((ji7) ≤ (l0.length : Int)) = true := decide_eq_true c9
            clear c9
            obtain ⟨y139, hy139⟩ : ∃ y_ : List (List Int), y_ = (l0.take ((ji7) : Int).toNat) := ⟨_, rfl⟩
            replace H : ((rs_Parity.f y139).bind fun bt143 => (if (ji7) < (l0.length : Int) then ((slices_Equal_byte_byte.f bt143.1 (rd_L1 l0 (ji7))).bind fun t150 => (if t150 = true then (if 0 ≤ (wrap64 ((ji7) + 1)) then (if (wrap64 ((ji7) + 1)) < (l0.length : Int) then ((slices_Equal_byte_byte.f bt143.2 (rd_L1 l0 (wrap64 ((ji7) + 1)))).bind fun t152 => (some t152)) else (none)) else (none)) else (some false))) else (none))) = some r := by first | (rw [hy139]; with_reducible exact H) | (have H2_ := (Option.bind_some _ _).symm.trans H; rw [hy139]; with_reducible exact H2_) | (have H2_ := (Option.bind_some _ _).symm.trans H; with_reducible exact H2_) | with_reducible exact H | (rw [hy139]; exact H) | exact H
            have Ny139 := Aside0.mk hy139
            clear hy139
            replace H := Option.bind_eq_some_iff.mp H
            obtain ⟨⟨t143, t144⟩, A100, H⟩ := H
            replace H : (if (ji7) < (l0.length : Int) then ((slices_Equal_byte_byte.f t143 (rd_L1 l0 (ji7))).bind fun t150 => (if t150 = true then (if 0 ≤ (wrap64 ((ji7) + 1)) then (if (wrap64 ((ji7) + 1)) < (l0.length : Int) then ((slices_Equal_byte_byte.f t144 (rd_L1 l0 (wrap64 ((ji7) + 1)))).bind fun t152 => (some t152)) else (none)) else (none)) else (some false))) else (none)) = some r := H
            have A10 := Aside0.mk A100
            clear A100
            by_cases c11 : (ji7) < (l0.length : Int)
            · rw [if_pos c11] at H
              have c11b0 : decide ((ji7) < (l0.length : Int)) = true := decide_eq_true c11
              clear c11
              replace H := Option.bind_eq_some_iff.mp H
              obtain ⟨t150, A120, H⟩ := H
              replace H : (if t150 = true then (if 0 ≤ (wrap64 ((ji7) + 1)) then (if (wrap64 ((ji7) + 1)) < (l0.length : Int) then ((slices_Equal_byte_byte.f t144 (rd_L1 l0 (wrap64 ((ji7) + 1)))).bind fun t152 => (some t152)) else (none)) else (none)) else (some false)) = some r := H
              have A12 := Aside0.mk A120
              clear A120
              by_cases c13 : t150 = true
              · subst c13
                have H1 : (if 0 ≤ (wrap64 ((ji7) + 1)) then (if (wrap64 ((ji7) + 1)) < (l0.length : Int) then ((slices_Equal_byte_byte.f t144 (rd_L1 l0 (wrap64 ((ji7) + 1)))).bind fun t152 => (some t152)) else (none)) else (none)) = some r := by rw [if_pos rfl] at H; exact H
                clear H
                have H := H1
                clear H1
                obtain ⟨ji14, hji14⟩ : ∃ j_ : Int, (wrap64 ((ji7) + 1)) = j_ := ⟨_, rfl⟩
                replace H : (if 0 ≤ (ji14) then (if (ji14) < (l0.length : Int) then ((slices_Equal_byte_byte.f t144 (rd_L1 l0 (ji14))).bind fun t152 => (some t152)) else (none)) else (none)) = some r := by first | (rw [hji14] at H; exact H) | (simp only [hji14] at H ⊢; exact H)
                (try rw [hji14] at A10)
                (try rw [hji14] at A12)
                have hji14w : (IntKind.i64.wrap ((ji7) + 1)) = ji14 := (i64_w _).trans hji14
                by_cases c15 : 0 ≤ (ji14)
                · rw [if_pos c15] at H
                  have c15b0 : decide (0 ≤ (ji14)) = true := decide_eq_true c15
                  clear c15
                  by_cases c16 : (ji14) < (l0.length : Int)
                  · rw [if_pos c16] at H
                    have c16b0 : decide ((ji14) < (l0.length : Int)) = true := decide_eq_true c16
                    clear c16
                    replace H := Option.bind_eq_some_iff.mp H
                    obtain ⟨t152, A170, H⟩ := H
                    replace H : (some t152) = some r := H
                    have A17 := Aside0.mk A170
                    clear A170
                    obtain rfl := Option.some.inj H
                    have q18 : ((ji7) : Int) ≤ ((l0.length : Int) : Int) := of_decide_eq_true (by first | (with_reducible assumption) | assumption)
                    obtain ⟨i018, hi018, _, hsz18, _⟩ := info_parts info47
                    have hroom18 : l0.length ≤ c0 := HC0.out
                    have hC18 : Kd.C (Kd.slice 5 (Kd.int .u8)) _ A0 l0.length l0 := HR0.out
                    have hcut18 := cut_to (P := Try.prog) 25 47 .i64 Try.underlying25 hi018 A0 l0.length c0 (ji7) (of_decide_eq_true (by first | (with_reducible assumption) | assumption)) q18 hroom18
                    have hr18 := Kd.C_take (m := ((ji7) : Int).toNat) hC18 (by omega)
                    have hy18 : y139.length = ((ji7) : Int).toNat := (by rw [Ny139.out, List.length_take]; omega)
                    rw [← Ny139.out] at hr18
                    rw [← hy18] at hcut18
                    have HR142 := Aside0.mk hr18
                    have HC142 := Aside0.mk (show y139.length ≤ c0 from by omega)
                    clear hr18 hC18 hroom18 hi018 hsz18
                    have KY18 := Aside0.mk hy18
                    clear hy18
                    replace q18 := eq_true q18
                    go_wp2_with (first | ((with_reducible refine gate_callee (f := 30) rfl ?_); refine goesL_ (some 32) rfl rfl Try.func30 (by kernel_rfl) rfl #[.slice A0 y139.length c0] rfl (by (try simp only [List.map_toArray, List.map_cons, List.map_nil]); first | done | rfl | (simp only [List.length_drop, List.length_take]; rfl)) ?_; (with_reducible refine (rs_Parity.calls _ _ y139 t143 t144 _ ?side1 ?side2 A10.out).mono ?_); (case side1 => repeat (first | exact (Kd.C_below HR142.out HB.out) | (with_reducible refine Kd.C_alloc ?_ _) | (with_reducible refine Kd.C_drewN ?_ _) | (with_reducible refine Kd.C_drew ?_))); (case side2 => exact HC142.out); rintro e w19 ⟨v145, v147, rfl, ho0, ho1, hb⟩; refine ⟨_, rfl, ?_⟩; have n0_ := Aside0.mk (Kd.R_lower ho0 (below_size (by repeat (first | (with_reducible first | exact HB.out | apply below_alloc | apply pw_below_drewN | apply below_drew1) | exact HB.out)))); have n1_ := Aside0.mk (Kd.R_lower ho1 (below_size (by repeat (first | (with_reducible first | exact HB.out | apply below_alloc | apply pw_below_drewN | apply below_drew1) | exact HB.out)))); have n2_ := Aside0.mk (below_step (by repeat (first | (with_reducible first | exact HB.out | apply below_alloc | apply pw_below_drewN | apply below_drew1) | exact HB.out)) hb); clear HB; have HO146 := n0_; have HO148 := n1_; have HB := n2_; clear n0_ n1_ n2_; (try clear hb); (try clear hb2); (try clear hk); (try clear hi); (try clear ho0); (try clear ho1); have p149 : 0 ≤ ((ji7) : Int) := of_decide_eq_true (by first | (with_reducible assumption) | assumption); have q149 : (ji7) < (l0.length : Int) := of_decide_eq_true (by first | (with_reducible assumption) | assumption); obtain ⟨ad149, A149_0, c149_0, e149, hx149_0, hl149_0, hi149_0⟩ := at_L1 HR0.out (ji7) p149 q149; cases e149; replace hx149_0 := (HB.out.cell (World.block_lt_of_cell? w _ hx149_0)).trans hx149_0; have HR149_0 := Aside0.mk hi149_0; have HC149_0 := Aside0.mk hl149_0; clear hi149_0 hl149_0; replace p149 := eq_true p149; replace q149 := eq_true q149; obtain ⟨Ao20, co20, eo20⟩ := Kd.R_slice HO146.out; subst eo20) | ((with_reducible refine gate_callee (f := 73) rfl ?_); refine goesL_ (some 40) rfl rfl Try.func73 (by kernel_rfl) rfl #[.slice Ao20 t143.length co20, .slice A149_0 (rd_L1 l0 (ji7)).length c149_0] rfl (by (try simp only [List.map_toArray, List.map_cons, List.map_nil]); first | done | (simp only [hji7]; rfl) | rfl | (simp only [List.length_drop, List.length_take]; rfl)) ?_; (with_reducible refine (slices_Equal_byte_byte.calls _ _ t143 _ _ (rd_L1 l0 (ji7)) true _ ?side1 ?side2 ?side3 ?side4 A12.out).mono ?_); (case side1 => repeat (first | exact (Kd.R_reads' HO146.out).2.2 | (with_reducible refine Kd.C_alloc ?_ _) | (with_reducible refine Kd.C_drewN ?_ _) | (with_reducible refine Kd.C_drew ?_))); (case side2 => exact (Kd.R_reads' HO146.out).2.1); (case side3 => repeat (first | exact (Kd.C_below HR149_0.out HB.out) | (with_reducible refine Kd.C_alloc ?_ _) | (with_reducible refine Kd.C_drewN ?_ _) | (with_reducible refine Kd.C_drew ?_))); (case side4 => exact HC149_0.out); rintro e w' ⟨rfl, ⟨nd, rfl⟩⟩; refine ⟨_, rfl, ?_⟩; have p151 : 0 ≤ ((ji14) : Int) := of_decide_eq_true (by first | (with_reducible assumption) | assumption); have q151 : (ji14) < (l0.length : Int) := of_decide_eq_true (by first | (with_reducible assumption) | assumption); obtain ⟨ad151, A151_0, c151_0, e151, hx151_0, hl151_0, hi151_0⟩ := at_L1 HR0.out (ji14) p151 q151; obtain rfl : ad149 = ad151 := (by injection e151); replace hx151_0 := (HB.out.cell (World.block_lt_of_cell? w _ hx151_0)).trans hx151_0; have HR151_0 := Aside0.mk hi151_0; have HC151_0 := Aside0.mk hl151_0; clear hi151_0 hl151_0; replace p151 := eq_true p151; replace q151 := eq_true q151; obtain ⟨Ao21, co21, eo21⟩ := Kd.R_slice HO148.out; subst eo21) | (go_at_call 73; (with_reducible refine (slices_Equal_byte_byte.calls _ _ t144 _ _ (rd_L1 l0 (ji14)) t152 _ ?side1 ?side2 ?side3 ?side4 A17.out).mono ?_); (case side1 => repeat (first | exact (Kd.R_reads' HO148.out).2.2 | (with_reducible refine Kd.C_alloc ?_ _) | (with_reducible refine Kd.C_drewN ?_ _) | (with_reducible refine Kd.C_drew ?_))); (case side2 => exact (Kd.R_reads' HO148.out).2.1); (case side3 => repeat (first | exact (Kd.C_below HR151_0.out (by repeat (first | (with_reducible first | exact HB.out | apply below_alloc | apply pw_below_drewN | apply below_drew1) | exact HB.out))) | (with_reducible refine Kd.C_alloc ?_ _) | (with_reducible refine Kd.C_drewN ?_ _) | (with_reducible refine Kd.C_drew ?_))); (case side4 => exact HC151_0.out); rintro e w' ⟨rfl, ⟨nd, rfl⟩⟩))
                    go_ret
                    exact ⟨by first | rfl | (simp [errW_none, errW_some] <;> rfl) | (simp only [← hji7, ← hji14]; first | rfl | (simp [errW_none, errW_some] <;> rfl)) | (simp [*, errW_none, errW_some] <;> rfl), by repeat (first | (with_reducible first | exact HB.out | apply below_alloc | apply pw_below_drewN | apply below_drew1) | exact HB.out)⟩
                  · rw [if_neg c16] at H
                    exact absurd H (by simp)
                · rw [if_neg c15] at H
                  exact absurd H (by simp)
              · replace c13 := Bool.eq_false_iff.mpr c13
                subst c13
                have H1 : (some false) = some r := by rw [if_neg (show ¬ (false = true) by decide)] at H; exact H
                clear H
                have H := H1
                clear H1
                obtain rfl := Option.some.inj H
                have q22 : ((ji7) : Int) ≤ ((l0.length : Int) : Int) := of_decide_eq_true (by first | (with_reducible assumption) | assumption)
                obtain ⟨i022, hi022, _, hsz22, _⟩ := info_parts info47
                have hroom22 : l0.length ≤ c0 := HC0.out
                have hC22 : Kd.C (Kd.slice 5 (Kd.int .u8)) _ A0 l0.length l0 := HR0.out
                have hcut22 := cut_to (P := Try.prog) 25 47 .i64 Try.underlying25 hi022 A0 l0.length c0 (ji7) (of_decide_eq_true (by first | (with_reducible assumption) | assumption)) q22 hroom22
                have hr22 := Kd.C_take (m := ((ji7) : Int).toNat) hC22 (by omega)
                have hy22 : y139.length = ((ji7) : Int).toNat := (by rw [Ny139.out, List.length_take]; omega)
                rw [← Ny139.out] at hr22
                rw [← hy22] at hcut22
                have HR142 := Aside0.mk hr22
                have HC142 := Aside0.mk (show y139.length ≤ c0 from by omega)
                clear hr22 hC22 hroom22 hi022 hsz22
                have KY22 := Aside0.mk hy22
                clear hy22
                replace q22 := eq_true q22
                go_wp2_with (first | ((with_reducible refine gate_callee (f := 30) rfl ?_); refine goesL_ (some 32) rfl rfl Try.func30 (by kernel_rfl) rfl #[.slice A0 y139.length c0] rfl (by (try simp only [List.map_toArray, List.map_cons, List.map_nil]); first | done | rfl | (simp only [List.length_drop, List.length_take]; rfl)) ?_; (with_reducible refine (rs_Parity.calls _ _ y139 t143 t144 _ ?side1 ?side2 A10.out).mono ?_); (case side1 => repeat (first | exact (Kd.C_below HR142.out HB.out) | (with_reducible refine Kd.C_alloc ?_ _) | (with_reducible refine Kd.C_drewN ?_ _) | (with_reducible refine Kd.C_drew ?_))); (case side2 => exact HC142.out); rintro e w23 ⟨v145, v147, rfl, ho0, ho1, hb⟩; refine ⟨_, rfl, ?_⟩; have n0_ := Aside0.mk (Kd.R_lower ho0 (below_size (by repeat (first | (with_reducible first | exact HB.out | apply below_alloc | apply pw_below_drewN | apply below_drew1) | exact HB.out)))); have n1_ := Aside0.mk (Kd.R_lower ho1 (below_size (by repeat (first | (with_reducible first | exact HB.out | apply below_alloc | apply pw_below_drewN | apply below_drew1) | exact HB.out)))); have n2_ := Aside0.mk (below_step (by repeat (first | (with_reducible first | exact HB.out | apply below_alloc | apply pw_below_drewN | apply below_drew1) | exact HB.out)) hb); clear HB; have HO146 := n0_; have HO148 := n1_; have HB := n2_; clear n0_ n1_ n2_; (try clear hb); (try clear hb2); (try clear hk); (try clear hi); (try clear ho0); (try clear ho1); have p149 : 0 ≤ ((ji7) : Int) := of_decide_eq_true (by first | (with_reducible assumption) | assumption); have q149 : (ji7) < (l0.length : Int) := of_decide_eq_true (by first | (with_reducible assumption) | assumption); obtain ⟨ad149, A149_0, c149_0, e149, hx149_0, hl149_0, hi149_0⟩ := at_L1 HR0.out (ji7) p149 q149; cases e149; replace hx149_0 := (HB.out.cell (World.block_lt_of_cell? w _ hx149_0)).trans hx149_0; have HR149_0 := Aside0.mk hi149_0; have HC149_0 := Aside0.mk hl149_0; clear hi149_0 hl149_0; replace p149 := eq_true p149; replace q149 := eq_true q149; obtain ⟨Ao24, co24, eo24⟩ := Kd.R_slice HO146.out; subst eo24) | ((with_reducible refine gate_callee (f := 73) rfl ?_); refine goesL_ (some 40) rfl rfl Try.func73 (by kernel_rfl) rfl #[.slice Ao24 t143.length co24, .slice A149_0 (rd_L1 l0 (ji7)).length c149_0] rfl (by (try simp only [List.map_toArray, List.map_cons, List.map_nil]); first | done | (simp only [hji7]; rfl) | rfl | (simp only [List.length_drop, List.length_take]; rfl)) ?_; (with_reducible refine (slices_Equal_byte_byte.calls _ _ t143 _ _ (rd_L1 l0 (ji7)) false _ ?side1 ?side2 ?side3 ?side4 A12.out).mono ?_); (case side1 => repeat (first | exact (Kd.R_reads' HO146.out).2.2 | (with_reducible refine Kd.C_alloc ?_ _) | (with_reducible refine Kd.C_drewN ?_ _) | (with_reducible refine Kd.C_drew ?_))); (case side2 => exact (Kd.R_reads' HO146.out).2.1); (case side3 => repeat (first | exact (Kd.C_below HR149_0.out HB.out) | (with_reducible refine Kd.C_alloc ?_ _) | (with_reducible refine Kd.C_drewN ?_ _) | (with_reducible refine Kd.C_drew ?_))); (case side4 => exact HC149_0.out); rintro e w' ⟨rfl, ⟨nd, rfl⟩⟩; refine ⟨_, rfl, ?_⟩))
                go_ret
                exact ⟨by first | rfl | (simp [errW_none, errW_some] <;> rfl) | (simp only [← hji7]; first | rfl | (simp [errW_none, errW_some] <;> rfl)) | (simp [*, errW_none, errW_some] <;> rfl), by repeat (first | (with_reducible first | exact HB.out | apply below_alloc | apply pw_below_drewN | apply below_drew1) | exact HB.out)⟩
            · rw [if_neg c11] at H
              exact absurd H (by simp)
          · rw [if_neg c9] at H
            exact absurd H (by simp)
        · rw [if_neg c8] at H
          exact absurd H (by simp)

end Go.Proofs.Ytibileffpgnjhaa.PRr
