/-
  Parts of a proof, laid together by a program of mine (pack.py): PRqx1, PRqx2, PRqx3, Pf, Fx, Pk, Ot.
-/
import Derived.Laws.BitsAllLaws
import Derived.IntWalk
import Derived.Laws.Bits128
import Derived.Test.YtodbmgafejclmaaZD14
namespace Go.Proofs.Ytodbmgafejclmaa.PRq
open Go.RowKit Go.Proofs.YtodbmgafejclmaaW.PrintWords Go.Proofs.YtodbmgafejclmaaW.PrintLast Go.Proofs.YtodbmgafejclmaaW.PrintMore
attribute [local go_sem] max2_int min2_int max_two min_two max_three min_three max_four min_four -- for this text's walks alone
set_option linter.unusedVariables false
set_option linter.unusedSimpArgs false
mutual
def ramekinref5_even.j0 : Nat → List (List Int) → Bool → Option (Bool)
  | 0, _, _ => none
  | k + 1, x0, x17 => if x17 = true then (some false) else (ramekinref5_even.l0 k x0 1)
def ramekinref5_even.l0 : Nat → List (List Int) → Int → Option (Bool)
  | 0, _, _ => none
  | k + 1, x0, x7 => if x7 < (x0.length : Int) then (if 0 ≤ x7 then (if 0 < (x0.length : Int) then (if ((rd_L1 x0 x7).length : Int) = ((rd_L1 x0 0).length : Int) then (ramekinref5_even.l0 k x0 (wrap64 (x7 + 1))) else (some false)) else (none)) else (none)) else (some true)
end
def ramekinref5_even.f (k : Nat) (l0 : List (List Int)) (a1 : Int) (a2 : Int) : Option (Bool) := if (l0.length : Int) < a1 then (ramekinref5_even.j0 k l0 true) else (ramekinref5_even.j0 k l0 (decide ((l0.length : Int) > a2)))
theorem ramekinref5_even.mono_l : ∀ k, (∀ y0 y1, LeO (ramekinref5_even.j0 k y0 y1) (ramekinref5_even.j0 (k + 1) y0 y1)) ∧ (∀ y0 y1, LeO (ramekinref5_even.l0 k y0 y1) (ramekinref5_even.l0 (k + 1) y0 y1))
  | 0 => ⟨fun _ _ r h => by simp [ramekinref5_even.j0] at h, fun _ _ r h => by simp [ramekinref5_even.l0] at h⟩
  | k + 1 => by
    obtain ⟨ih0, ih1⟩ := ramekinref5_even.mono_l k
    refine ⟨?_, ?_⟩
    · intro y0 y1
      unfold ramekinref5_even.j0
      repeat' first
      | (with_reducible exact ih0 _ _)
      | (with_reducible exact ih1 _ _)
      | (with_reducible exact LeO.refl _)
      | (with_reducible exact LeO.none _)
      | (with_reducible refine LeO.ite ?_ ?_)
      | (with_reducible refine LeO.bind ?_ (fun _ => ?_))
      | exact ih0 _ _
      | exact ih1 _ _
      | exact LeO.none _
      | refine LeO.ite ?_ ?_
      | refine LeO.bind ?_ (fun _ => ?_)
    · intro y0 y1
      unfold ramekinref5_even.l0
      repeat' first
      | (with_reducible exact ih0 _ _)
      | (with_reducible exact ih1 _ _)
      | (with_reducible exact LeO.refl _)
      | (with_reducible exact LeO.none _)
      | (with_reducible refine LeO.ite ?_ ?_)
      | (with_reducible refine LeO.bind ?_ (fun _ => ?_))
      | exact ih0 _ _
      | exact ih1 _ _
      | exact LeO.none _
      | refine LeO.ite ?_ ?_
      | refine LeO.bind ?_ (fun _ => ?_)
theorem ramekinref5_even.mono : ∀ a0 a1 a2 k, LeO (ramekinref5_even.f k a0 a1 a2) (ramekinref5_even.f (k + 1) a0 a1 a2) := by
  intro a0 a1 a2 k
  obtain ⟨ih0, ih1⟩ := ramekinref5_even.mono_l k
  unfold ramekinref5_even.f
  repeat' first
      | (with_reducible exact ih0 _ _)
      | (with_reducible exact ih1 _ _)
      | (with_reducible exact LeO.refl _)
      | (with_reducible exact LeO.none _)
      | (with_reducible refine LeO.ite ?_ ?_)
      | (with_reducible refine LeO.bind ?_ (fun _ => ?_))
      | exact ih0 _ _
      | exact ih1 _ _
      | exact LeO.none _
      | refine LeO.ite ?_ ?_
      | refine LeO.bind ?_ (fun _ => ?_)
set_option maxHeartbeats 8000000 in
set_option maxRecDepth 100000 in
theorem ramekinref5_even.calls (k : Nat) (A0 : Option Addr) (c0 : Nat) (l0 : List (List Int)) (a1 : Int) (a2 : Int) (r : Bool) (w : World) (hr0 : Kd.C (Kd.slice 5 (Kd.int .u8)) w A0 l0.length l0) (hc0 : l0.length ≤ c0) (h : ramekinref5_even.f k l0 a1 a2 = some r) :
    Calls Try.prog 39 #[.slice A0 l0.length c0, .int .i64 a1, .int .i64 a2] w fun e w' => e = .returned (.bool r) ∧ Drawn0 w w' := by
  have HR0 := Aside0.mk hr0
  have HC0 := Aside0.mk hc0
  clear hr0 hc0
  have H : (if (l0.length : Int) < a1 then (ramekinref5_even.j0 k l0 true) else (ramekinref5_even.j0 k l0 (decide ((l0.length : Int) > a2)))) = some r := h
  clear h
  have HC4 := Aside0.mk H
  clear H
  go_enter Try.func39, Try.ntmps39
  go_upto_region 1 with (fail)
  repeat (go_quiet (fail); go_upto_region 1 with (fail))
  go_cut [17] (fun v17 wc => ∃ (kq : Nat) (x17_3 : Bool), v17 = .bool x17_3 ∧ Aside0 (ramekinref5_even.j0 kq l0 x17_3 = some r) ∧ Aside0 (kq ≤ k) ∧ Drawn0 w wc)
  case first =>
    have H := HC4.out
    clear HC4
    by_cases c5 : (l0.length : Int) < a1
    · rw [if_pos c5] at H
      have c5b0 : decide ((l0.length : Int) < a1) = true := decide_eq_true c5
      clear c5
      (first | rw [c5b0] | (simp only [i64_w, i32_w]; rw [c5b0]) | skip)
      have H' := Aside0.mk H
      clear H
      go_wp2
      repeat (go_quiet (fail); try go_wp2)
      go_meet
      case rel => exact ⟨_, (true), (by first | rfl | (simp; done) | (simp [*]; done)), H', ⟨by first | omega | exact Nat.le_refl _⟩, by repeat (first | exact Drawn0.refl _ | apply Drawn0.step)⟩
    · rw [if_neg c5] at H
      have c5b0 : decide ((l0.length : Int) < a1) = false := decide_eq_false c5
      clear c5
      (first | rw [c5b0] | (simp only [i64_w, i32_w]; rw [c5b0]) | skip)
      have H' := Aside0.mk H
      clear H
      go_wp2
      repeat (go_quiet (fail); try go_wp2)
      go_meet
      case rel => exact ⟨_, (decide ((l0.length : Int) > a2)), (by first | rfl | (simp; done) | (simp [*]; done)), H', ⟨by first | omega | exact Nat.le_refl _⟩, by repeat (first | exact Drawn0.refl _ | apply Drawn0.step)⟩
  case rest =>
    clear HC4
    try clear p2
    try clear c3
    try clear c5
    try clear c5b0
    obtain ⟨kq, x17_3, rfl, HA, HJ3, ⟨mc3, rfl⟩⟩ := hcut
    cases kq with
    | zero => exact absurd HA.out (by simp [ramekinref5_even.j0])
    | succ kj3 =>
      have H := HA.out
      clear HA
      simp only [ramekinref5_even.j0] at H
      by_cases c6 : x17_3 = true
      · subst c6
        have H1 : (some false) = some r := by rw [if_pos rfl] at H; exact H
        clear H
        have H := H1
        clear H1
        obtain rfl := Option.some.inj H
        go_wp2
        repeat (go_quiet (fail); try go_wp2)
        go_ret
        exact ⟨by first | rfl | (simp; done) | (simp [*]; done), by repeat (first | exact Drawn0.refl _ | apply Drawn0.step)⟩
      · replace c6 := Bool.eq_false_iff.mpr c6
        subst c6
        have H1 : (ramekinref5_even.l0 kj3 l0 1) = some r := by rw [if_neg (show ¬ (false = true) by decide)] at H; exact H
        clear H
        have H := H1
        clear H1
        have H' := Aside0.mk H
        clear H
        go_wp2
        repeat (go_quiet (fail); try go_wp2)
        go_loopg [7] kj3 (fun kq v7 w' => ∃ (x7_2 : Int), v7 = .int .i64 x7_2 ∧ Aside0 (ramekinref5_even.l0 kq l0 x7_2 = some r) ∧ Aside0 (kq ≤ kj3) ∧ Drawn0 w w')
        case atStart => exact ⟨(1), (by first | rfl | (simp; done) | (simp [*]; done)), H', ⟨Nat.le_refl _⟩, by repeat (first | exact Drawn0.refl _ | apply Drawn0.step)⟩
        case round =>
          clear H'
          try clear p2
          try clear c3
          try clear c5
          try clear c5b0
          try clear c6
          try clear p2
          obtain ⟨x7_2, rfl, HA, HK2, ⟨m2, rfl⟩⟩ := hrel
          cases gk with
          | zero => exact absurd HA.out (by simp [ramekinref5_even.l0])
          | succ k2 =>
            have H := HA.out
            clear HA
            simp only [ramekinref5_even.l0] at H
            by_cases c7 : x7_2 < (l0.length : Int)
            · rw [if_pos c7] at H
              have c7b0 : decide (x7_2 < (l0.length : Int)) = true := decide_eq_true c7
              clear c7
              by_cases c8 : 0 ≤ x7_2
              · rw [if_pos c8] at H
                have c8b0 : decide (0 ≤ x7_2) = true := decide_eq_true c8
                clear c8
                by_cases c9 : 0 < (l0.length : Int)
                · rw [if_pos c9] at H
                  have c9b0 : decide (0 < (l0.length : Int)) = true := decide_eq_true c9
                  have c9b1 : decide (0 < l0.length) = true := decide_eq_true (by omega)
                  clear c9
                  by_cases c10 : ((rd_L1 l0 x7_2).length : Int) = ((rd_L1 l0 0).length : Int)
                  · rw [if_pos c10] at H
                    have c10b0 : (((rd_L1 l0 x7_2).length : Int) == ((rd_L1 l0 0).length : Int)) = true := beq_iff_eq.mpr c10
                    have c10b1 : (((rd_L1 l0 x7_2).length : Int) != ((rd_L1 l0 0).length : Int)) = false := bne_eq_false_iff_eq.mpr c10
                    have c10b2 : ((rd_L1 l0 x7_2).length == (rd_L1 l0 0).length) = true := by first | simpa using c10 | (simp at c10 ⊢; omega)
                    clear c10
                    have H' := Aside0.mk H
                    clear H
                    have p101 : 0 ≤ (x7_2 : Int) := of_decide_eq_true (by first | (with_reducible assumption) | assumption)
                    have q101 : x7_2 < (l0.length : Int) := of_decide_eq_true (by first | (with_reducible assumption) | assumption)
                    obtain ⟨ad101, A101_0, c101_0, e101, hx101_0, hl101_0, hi101_0⟩ := at_L1 HR0.out x7_2 p101 q101
                    cases e101
                    have HR101_0 := Aside0.mk hi101_0
                    have HC101_0 := Aside0.mk hl101_0
                    clear hi101_0 hl101_0
                    replace p101 := eq_true p101
                    replace q101 := eq_true q101
                    have p102 : 0 ≤ (0 : Int) := (by omega)
                    have q102 : 0 < (l0.length : Int) := of_decide_eq_true (by first | (with_reducible assumption) | assumption)
                    obtain ⟨ad102, A102_0, c102_0, e102, hx102_0, hl102_0, hi102_0⟩ := at_L1 HR0.out 0 p102 q102
                    obtain rfl : ad101 = ad102 := (by injection e102)
                    have qi102 : (0 < l0.length) = True := eq_true (by omega)
                    (try rw [show ((0 : Int)).toNat = 0 from rfl] at hx102_0)
                    (try rw [Addr.add_zero'] at hx102_0)
                    have HR102_0 := Aside0.mk hi102_0
                    have HC102_0 := Aside0.mk hl102_0
                    clear hi102_0 hl102_0
                    replace p102 := eq_true p102
                    replace q102 := eq_true q102
                    go_wp2
                    repeat (go_quiet (fail); try go_wp2)
                    go_roundg k2
                    case measure => have := HJ3.out; have := HK2.out; omega
                    case rel => exact ⟨(wrap64 (x7_2 + 1)), (by first | rfl | (simp; done) | (simp [*]; done)), H', ⟨by have := HJ3.out; have := HK2.out; omega⟩, by repeat (first | exact Drawn0.refl _ | apply Drawn0.step)⟩
                  · rw [if_neg c10] at H
                    have c10b0 : (((rd_L1 l0 x7_2).length : Int) == ((rd_L1 l0 0).length : Int)) = false := beq_eq_false_iff_ne.mpr c10
                    have c10b1 : (((rd_L1 l0 x7_2).length : Int) != ((rd_L1 l0 0).length : Int)) = true := bne_iff_ne.mpr c10
                    have c10b2 : ((rd_L1 l0 x7_2).length == (rd_L1 l0 0).length) = false := by first | simpa using c10 | (simp at c10 ⊢; omega)
                    obtain rfl := Option.some.inj H
                    have p101 : 0 ≤ (x7_2 : Int) := of_decide_eq_true (by first | (with_reducible assumption) | assumption)
                    have q101 : x7_2 < (l0.length : Int) := of_decide_eq_true (by first | (with_reducible assumption) | assumption)
                    obtain ⟨ad101, A101_0, c101_0, e101, hx101_0, hl101_0, hi101_0⟩ := at_L1 HR0.out x7_2 p101 q101
                    cases e101
                    have HR101_0 := Aside0.mk hi101_0
                    have HC101_0 := Aside0.mk hl101_0
                    clear hi101_0 hl101_0
                    replace p101 := eq_true p101
                    replace q101 := eq_true q101
                    have p102 : 0 ≤ (0 : Int) := (by omega)
                    have q102 : 0 < (l0.length : Int) := of_decide_eq_true (by first | (with_reducible assumption) | assumption)
                    obtain ⟨ad102, A102_0, c102_0, e102, hx102_0, hl102_0, hi102_0⟩ := at_L1 HR0.out 0 p102 q102
                    obtain rfl : ad101 = ad102 := (by injection e102)
                    have qi102 : (0 < l0.length) = True := eq_true (by omega)
                    (try rw [show ((0 : Int)).toNat = 0 from rfl] at hx102_0)
                    (try rw [Addr.add_zero'] at hx102_0)
                    have HR102_0 := Aside0.mk hi102_0
                    have HC102_0 := Aside0.mk hl102_0
                    clear hi102_0 hl102_0
                    replace p102 := eq_true p102
                    replace q102 := eq_true q102
                    go_wp2
                    repeat (go_quiet (fail); try go_wp2)
                    go_ret
                    exact ⟨by first | rfl | (simp; done) | (simp [*]; done), by repeat (first | exact Drawn0.refl _ | apply Drawn0.step)⟩
                · rw [if_neg c9] at H
                  exact absurd H (by simp)
              · rw [if_neg c8] at H
                exact absurd H (by simp)
            · rw [if_neg c7] at H
              have c7b0 : decide (x7_2 < (l0.length : Int)) = false := decide_eq_false c7
              clear c7
              obtain rfl := Option.some.inj H
              go_wp2
              repeat (go_quiet (fail); try go_wp2)
              go_ret
              exact ⟨by first | rfl | (simp; done) | (simp [*]; done), by repeat (first | exact Drawn0.refl _ | apply Drawn0.step)⟩
def ramekinref2_Mul.l0 : Nat → Int → Int → Int → Option (Int)
  | 0, _, _, _ => none
  | k + 1, x5, x6, x7 => if x6 > 0 then (if (Go.bits .and .i64 x6 1) = 1 then (if (wrap64 (x5 * 2)) > 255 then (ramekinref2_Mul.l0 k (Go.bits .xor .i64 (wrap64 (x5 * 2)) 285) (x6 / 2) (Go.bits .xor .i64 x7 x5)) else (ramekinref2_Mul.l0 k (wrap64 (x5 * 2)) (x6 / 2) (Go.bits .xor .i64 x7 x5))) else (if (wrap64 (x5 * 2)) > 255 then (ramekinref2_Mul.l0 k (Go.bits .xor .i64 (wrap64 (x5 * 2)) 285) (x6 / 2) x7) else (ramekinref2_Mul.l0 k (wrap64 (x5 * 2)) (x6 / 2) x7))) else (some ((x7) % 256))
def ramekinref2_Mul.f (k : Nat) (a0 : Int) (a1 : Int) : Option (Int) := ramekinref2_Mul.l0 k (wrap64 (a0)) (wrap64 (a1)) 0
theorem ramekinref2_Mul.mono_l : ∀ k, (∀ y0 y1 y2, LeO (ramekinref2_Mul.l0 k y0 y1 y2) (ramekinref2_Mul.l0 (k + 1) y0 y1 y2))
  | 0 => fun _ _ _ r h => by simp [ramekinref2_Mul.l0] at h
  | k + 1 => by
    have ih0 := ramekinref2_Mul.mono_l k
    · intro y0 y1 y2
      unfold ramekinref2_Mul.l0
      repeat' first
      | (with_reducible exact ih0 _ _ _)
      | (with_reducible exact LeO.refl _)
      | (with_reducible exact LeO.none _)
      | (with_reducible refine LeO.ite ?_ ?_)
      | (with_reducible refine LeO.bind ?_ (fun _ => ?_))
      | exact ih0 _ _ _
      | exact LeO.none _
      | refine LeO.ite ?_ ?_
      | refine LeO.bind ?_ (fun _ => ?_)
theorem ramekinref2_Mul.mono : ∀ a0 a1 k, LeO (ramekinref2_Mul.f k a0 a1) (ramekinref2_Mul.f (k + 1) a0 a1) := by
  intro a0 a1 k
  have ih0 := ramekinref2_Mul.mono_l k
  unfold ramekinref2_Mul.f
  repeat' first
      | (with_reducible exact ih0 _ _ _)
      | (with_reducible exact LeO.refl _)
      | (with_reducible exact LeO.none _)
      | (with_reducible refine LeO.ite ?_ ?_)
      | (with_reducible refine LeO.bind ?_ (fun _ => ?_))
      | exact ih0 _ _ _
      | exact LeO.none _
      | refine LeO.ite ?_ ?_
      | refine LeO.bind ?_ (fun _ => ?_)
set_option maxHeartbeats 8000000 in
set_option maxRecDepth 100000 in
theorem ramekinref2_Mul.calls (k : Nat) (a0 : Int) (a1 : Int) (r : Int) (w : World) (h : ramekinref2_Mul.f k a0 a1 = some r) :
    Calls Try.prog 41 #[.int .u8 a0, .int .u8 a1] w fun e w' => e = .returned (.int .u8 r) ∧ Drawn0 w w' := by
  have H : (ramekinref2_Mul.l0 k (wrap64 (a0)) (wrap64 (a1)) 0) = some r := h
  clear h
  have H' := Aside0.mk H
  clear H
  go_enter Try.func41, Try.ntmps41
  go_wp2
  go_loopg [5, 6, 7] k (fun kq v5 v6 v7 w' => ∃ (x5_1 : Int) (x6_1 : Int) (x7_1 : Int), v5 = .int .i64 x5_1 ∧ v6 = .int .i64 x6_1 ∧ v7 = .int .i64 x7_1 ∧ Aside0 (ramekinref2_Mul.l0 kq x5_1 x6_1 x7_1 = some r) ∧ Aside0 (kq ≤ k) ∧ Drawn0 w w')
  case atStart => exact ⟨(wrap64 (a0)), (wrap64 (a1)), (0), (by first | rfl | (simp; done) | (simp [*]; done)), (by first | rfl | (simp; done) | (simp [*]; done)), (by first | rfl | (simp; done) | (simp [*]; done)), H', ⟨Nat.le_refl _⟩, by repeat (first | exact Drawn0.refl _ | apply Drawn0.step)⟩
  case round =>
    clear H'
    try clear p2
    obtain ⟨x5_1, x6_1, x7_1, rfl, rfl, rfl, HA, HK1, ⟨m1, rfl⟩⟩ := hrel
    cases gk with
    | zero => exact absurd HA.out (by simp [ramekinref2_Mul.l0])
    | succ k1 =>
      have H := HA.out
      clear HA
      simp only [ramekinref2_Mul.l0] at H
      by_cases c3 : x6_1 > 0
      · rw [if_pos c3] at H
        have c3b0 : decide (0 < x6_1) = true := decide_eq_true c3
        clear c3
        by_cases c4 : (Go.bits .and .i64 x6_1 1) = 1
        · rw [if_pos c4] at H
          have c4b0 : ((Go.bits .and .i64 x6_1 1) == 1) = true := beq_iff_eq.mpr c4
          have c4b1 : ((Go.bits .and .i64 x6_1 1) != 1) = false := bne_eq_false_iff_eq.mpr c4
          clear c4
          by_cases c5 : (wrap64 (x5_1 * 2)) > 255
          · rw [if_pos c5] at H
            have c5b0 : decide (255 < (wrap64 (x5_1 * 2))) = true := decide_eq_true c5
            clear c5
            have H' := Aside0.mk H
            clear H
            go_wp2
            go_roundg k1
            case measure => have := HK1.out; omega
            case rel => exact ⟨(Go.bits .xor .i64 (wrap64 (x5_1 * 2)) 285), (x6_1 / 2), (Go.bits .xor .i64 x7_1 x5_1), (by first | rfl | (simp; done) | (simp [*]; done)), (by first | rfl | (simp; done) | (simp [*]; done)), (by first | rfl | (simp; done) | (simp [*]; done)), H', ⟨by have := HK1.out; omega⟩, by repeat (first | exact Drawn0.refl _ | apply Drawn0.step)⟩
          · rw [if_neg c5] at H
            have c5b0 : decide (255 < (wrap64 (x5_1 * 2))) = false := decide_eq_false c5
            clear c5
            have H' := Aside0.mk H
            clear H
            go_wp2
            go_roundg k1
            case measure => have := HK1.out; omega
            case rel => exact ⟨(wrap64 (x5_1 * 2)), (x6_1 / 2), (Go.bits .xor .i64 x7_1 x5_1), (by first | rfl | (simp; done) | (simp [*]; done)), (by first | rfl | (simp; done) | (simp [*]; done)), (by first | rfl | (simp; done) | (simp [*]; done)), H', ⟨by have := HK1.out; omega⟩, by repeat (first | exact Drawn0.refl _ | apply Drawn0.step)⟩
        · rw [if_neg c4] at H
          have c4b0 : ((Go.bits .and .i64 x6_1 1) == 1) = false := beq_eq_false_iff_ne.mpr c4
          have c4b1 : ((Go.bits .and .i64 x6_1 1) != 1) = true := bne_iff_ne.mpr c4
          by_cases c6 : (wrap64 (x5_1 * 2)) > 255
          · rw [if_pos c6] at H
            have c6b0 : decide (255 < (wrap64 (x5_1 * 2))) = true := decide_eq_true c6
            clear c6
            have H' := Aside0.mk H
            clear H
            go_wp2
            go_roundg k1
            case measure => have := HK1.out; omega
            case rel => exact ⟨(Go.bits .xor .i64 (wrap64 (x5_1 * 2)) 285), (x6_1 / 2), (x7_1), (by first | rfl | (simp; done) | (simp [*]; done)), (by first | rfl | (simp; done) | (simp [*]; done)), (by first | rfl | (simp; done) | (simp [*]; done)), H', ⟨by have := HK1.out; omega⟩, by repeat (first | exact Drawn0.refl _ | apply Drawn0.step)⟩
          · rw [if_neg c6] at H
            have c6b0 : decide (255 < (wrap64 (x5_1 * 2))) = false := decide_eq_false c6
            clear c6
            have H' := Aside0.mk H
            clear H
            go_wp2
            go_roundg k1
            case measure => have := HK1.out; omega
            case rel => exact ⟨(wrap64 (x5_1 * 2)), (x6_1 / 2), (x7_1), (by first | rfl | (simp; done) | (simp [*]; done)), (by first | rfl | (simp; done) | (simp [*]; done)), (by first | rfl | (simp; done) | (simp [*]; done)), H', ⟨by have := HK1.out; omega⟩, by repeat (first | exact Drawn0.refl _ | apply Drawn0.step)⟩
      · rw [if_neg c3] at H
        have c3b0 : decide (0 < x6_1) = false := decide_eq_false c3
        clear c3
        obtain rfl := Option.some.inj H
        go_wp2
        go_ret
        exact ⟨by first | rfl | (simp; done) | (simp [*]; done), by repeat (first | exact Drawn0.refl _ | apply Drawn0.step)⟩
mutual
def ramekinref2_Exp.j0 : Nat → Int → Option (Int)
  | 0, _ => none
  | k + 1, x0 => ramekinref2_Exp.l0 k x0 1 0
def ramekinref2_Exp.l0 : Nat → Int → Int → Int → Option (Int)
  | 0, _, _, _ => none
  | k + 1, x0, x3, x4 => if x4 < x0 then ((ramekinref2_Mul.f k x3 2).bind fun t103 => (ramekinref2_Exp.l0 k x0 t103 (wrap64 (x4 + 1)))) else (some x3)
end
def ramekinref2_Exp.f (k : Nat) (a0 : Int) : Option (Int) := if (Int.tmod a0 255) < 0 then (ramekinref2_Exp.j0 k (wrap64 ((Int.tmod a0 255) + 255))) else (ramekinref2_Exp.j0 k (Int.tmod a0 255))
theorem ramekinref2_Exp.mono_l : ∀ k, (∀ y0, LeO (ramekinref2_Exp.j0 k y0) (ramekinref2_Exp.j0 (k + 1) y0)) ∧ (∀ y0 y1 y2, LeO (ramekinref2_Exp.l0 k y0 y1 y2) (ramekinref2_Exp.l0 (k + 1) y0 y1 y2))
  | 0 => ⟨fun _ r h => by simp [ramekinref2_Exp.j0] at h, fun _ _ _ r h => by simp [ramekinref2_Exp.l0] at h⟩
  | k + 1 => by
    obtain ⟨ih0, ih1⟩ := ramekinref2_Exp.mono_l k
    refine ⟨?_, ?_⟩
    · intro y0
      unfold ramekinref2_Exp.j0
      repeat' first
      | (with_reducible exact ih0 _)
      | (with_reducible exact ih1 _ _ _)
      | (with_reducible exact ramekinref2_Mul.mono _ _ _)
      | (with_reducible exact LeO.refl _)
      | (with_reducible exact LeO.none _)
      | (with_reducible refine LeO.ite ?_ ?_)
      | (with_reducible refine LeO.bind ?_ (fun _ => ?_))
      | exact ih0 _
      | exact ih1 _ _ _
      | exact ramekinref2_Mul.mono _ _ _
      | exact LeO.none _
      | refine LeO.ite ?_ ?_
      | refine LeO.bind ?_ (fun _ => ?_)
    · intro y0 y1 y2
      unfold ramekinref2_Exp.l0
      repeat' first
      | (with_reducible exact ih0 _)
      | (with_reducible exact ih1 _ _ _)
      | (with_reducible exact ramekinref2_Mul.mono _ _ _)
      | (with_reducible exact LeO.refl _)
      | (with_reducible exact LeO.none _)
      | (with_reducible refine LeO.ite ?_ ?_)
      | (with_reducible refine LeO.bind ?_ (fun _ => ?_))
      | exact ih0 _
      | exact ih1 _ _ _
      | exact ramekinref2_Mul.mono _ _ _
      | exact LeO.none _
      | refine LeO.ite ?_ ?_
      | refine LeO.bind ?_ (fun _ => ?_)
theorem ramekinref2_Exp.mono : ∀ a0 k, LeO (ramekinref2_Exp.f k a0) (ramekinref2_Exp.f (k + 1) a0) := by
  intro a0 k
  obtain ⟨ih0, ih1⟩ := ramekinref2_Exp.mono_l k
  unfold ramekinref2_Exp.f
  repeat' first
      | (with_reducible exact ih0 _)
      | (with_reducible exact ih1 _ _ _)
      | (with_reducible exact ramekinref2_Mul.mono _ _ _)
      | (with_reducible exact LeO.refl _)
      | (with_reducible exact LeO.none _)
      | (with_reducible refine LeO.ite ?_ ?_)
      | (with_reducible refine LeO.bind ?_ (fun _ => ?_))
      | exact ih0 _
      | exact ih1 _ _ _
      | exact ramekinref2_Mul.mono _ _ _
      | exact LeO.none _
      | refine LeO.ite ?_ ?_
      | refine LeO.bind ?_ (fun _ => ?_)
set_option maxHeartbeats 8000000 in
set_option maxRecDepth 100000 in
theorem ramekinref2_Exp.calls (k : Nat) (a0 : Int) (r : Int) (w : World) (h : ramekinref2_Exp.f k a0 = some r) :
    Calls Try.prog 40 #[.int .i64 a0] w fun e w' => e = .returned (.int .u8 r) ∧ Drawn0 w w' := by
  have H : (if (Int.tmod a0 255) < 0 then (ramekinref2_Exp.j0 k (wrap64 ((Int.tmod a0 255) + 255))) else (ramekinref2_Exp.j0 k (Int.tmod a0 255))) = some r := h
  clear h
  have HC2 := Aside0.mk H
  clear H
  go_enter Try.func40, Try.ntmps40
  go_upto_if 8 with (fail)
  go_cut [0] (fun v0 wc => ∃ (kq : Nat) (x0_1 : Int), v0 = .int .i64 x0_1 ∧ Aside0 (ramekinref2_Exp.j0 kq x0_1 = some r) ∧ Aside0 (kq ≤ k) ∧ Drawn0 w wc)
  case first =>
    have H := HC2.out
    clear HC2
    by_cases c3 : (Int.tmod a0 255) < 0
    · rw [if_pos c3] at H
      have c3b0 : decide ((Int.tmod a0 255) < 0) = true := decide_eq_true c3
      clear c3
      (first | rw [c3b0] | (simp only [i64_w, i32_w]; rw [c3b0]) | skip)
      have H' := Aside0.mk H
      clear H
      go_wp2
      go_meet
      case rel => exact ⟨_, (wrap64 ((Int.tmod a0 255) + 255)), (by first | rfl | (simp; done) | (simp [*]; done)), H', ⟨by first | omega | exact Nat.le_refl _⟩, by repeat (first | exact Drawn0.refl _ | apply Drawn0.step)⟩
    · rw [if_neg c3] at H
      have c3b0 : decide ((Int.tmod a0 255) < 0) = false := decide_eq_false c3
      clear c3
      (first | rw [c3b0] | (simp only [i64_w, i32_w]; rw [c3b0]) | skip)
      have H' := Aside0.mk H
      clear H
      go_wp2
      go_meet
      case rel => exact ⟨_, (Int.tmod a0 255), (by first | rfl | (simp; done) | (simp [*]; done)), H', ⟨by first | omega | exact Nat.le_refl _⟩, by repeat (first | exact Drawn0.refl _ | apply Drawn0.step)⟩
  case rest =>
    clear HC2
    try clear p2
    try clear c3
    try clear c3b0
    obtain ⟨kq, x0_1, rfl, HA, HJ1, ⟨mc1, rfl⟩⟩ := hcut
    cases kq with
    | zero => exact absurd HA.out (by simp [ramekinref2_Exp.j0])
    | succ kj1 =>
      have H := HA.out
      clear HA
      simp only [ramekinref2_Exp.j0] at H
      have H' := Aside0.mk H
      clear H
      go_wp2
      go_loopg [3, 4] kj1 (fun kq v3 v4 w' => ∃ (x3_2 : Int) (x4_2 : Int), v3 = .int .u8 x3_2 ∧ v4 = .int .i64 x4_2 ∧ Aside0 (ramekinref2_Exp.l0 kq x0_1 x3_2 x4_2 = some r) ∧ Aside0 (kq ≤ kj1) ∧ Drawn0 w w')
      case atStart => exact ⟨(1), (0), (by first | rfl | (simp; done) | (simp [*]; done)), (by first | rfl | (simp; done) | (simp [*]; done)), H', ⟨Nat.le_refl _⟩, by repeat (first | exact Drawn0.refl _ | apply Drawn0.step)⟩
      case round =>
        clear H'
        try clear c1
        try clear p2
        try clear c3
        try clear c3b0
        try clear p2
        obtain ⟨x3_2, x4_2, rfl, rfl, HA, HK2, ⟨m2, rfl⟩⟩ := hrel
        cases gk with
        | zero => exact absurd HA.out (by simp [ramekinref2_Exp.l0])
        | succ k2 =>
          have H := HA.out
          clear HA
          simp only [ramekinref2_Exp.l0] at H
          by_cases c4 : x4_2 < x0_1
          · rw [if_pos c4] at H
            have c4b0 : decide (x4_2 < x0_1) = true := decide_eq_true c4
            clear c4
            replace H := Option.bind_eq_some_iff.mp H
            obtain ⟨t103, A50, H⟩ := H
            replace H : (ramekinref2_Exp.l0 k2 x0_1 t103 (wrap64 (x4_2 + 1))) = some r := H
            have A5 := Aside0.mk A50
            clear A50
            have H' := Aside0.mk H
            clear H
            go_wp2_with (first | ((with_reducible refine gate_callee (f := 41) rfl ?_); refine goesL_ (some 17) rfl rfl Try.func41 (by kernel_rfl) rfl #[.int .u8 x3_2, .int .u8 2] rfl (by (try simp only [List.map_toArray, List.map_cons, List.map_nil]); first | done | rfl | (simp only [List.length_drop, List.length_take]; rfl)) ?_; (with_reducible refine (ramekinref2_Mul.calls k2 x3_2 2 t103 _ A5.out).mono ?_); rintro e w' ⟨rfl, ⟨nd, rfl⟩⟩; refine ⟨_, rfl, ?_⟩))
            go_roundg k2
            case measure => have := HJ1.out; have := HK2.out; omega
            case rel => exact ⟨(t103), (wrap64 (x4_2 + 1)), (by first | rfl | (simp; done) | (simp [*]; done)), (by first | rfl | (simp; done) | (simp [*]; done)), H', ⟨by have := HJ1.out; have := HK2.out; omega⟩, by repeat (first | exact Drawn0.refl _ | apply Drawn0.step)⟩
          · rw [if_neg c4] at H
            have c4b0 : decide (x4_2 < x0_1) = false := decide_eq_false c4
            clear c4
            obtain rfl := Option.some.inj H
            go_wp2
            go_ret
            exact ⟨by first | rfl | (simp; done) | (simp [*]; done), by repeat (first | exact Drawn0.refl _ | apply Drawn0.step)⟩
def gf_Mul.f (a0 : Int) (a1 : Int) : Option (Int) := if (0 ≤ a0 ∧ a0 < 256) ∧ 0 ≤ a1 ∧ a1 < 256 then some ((Base.mulN a0.toNat a1.toNat : Nat) : Int) else none
theorem gf_Mul.calls (a0 : Int) (a1 : Int) (r : Int) (w : World) (h : gf_Mul.f a0 a1 = some r) :
    Calls Try.prog 72 #[.int .u8 a0, .int .u8 a1] w fun e w' => e = .returned (.int .u8 r) ∧ Below w.heap.size w w' := by
  unfold gf_Mul.f at h
  split at h
  · rename_i hc
    obtain ⟨⟨h0, h1⟩, h2, h3⟩ := hc
    cases h
    have := Base.mul_any a0.toNat a1.toNat (by omega) (by omega) w
    rw [Int.toNat_of_nonneg h0, Int.toNat_of_nonneg h2] at this
    exact this
  · cases h
def rs_add.l0 : Nat → List Int → Int → List Int → Int → Int → Option (List Int)
  | 0, _, _, _, _, _ => none
  | k + 1, x0, x2, x8, x9, x10 => if x10 < x9 then (if 0 ≤ x10 then (if x10 < (x8.length : Int) then (if x10 < (x0.length : Int) then ((gf_Mul.f (rd x8 x10) x2).bind fun t109 => (rs_add.l0 k (x0.set (x10 : Int).toNat (Go.bits .xor .u8 (rd x0 x10) t109)) x2 x8 x9 (wrap64 (x10 + 1)))) else (none)) else (none)) else (none)) else (some x0)
def rs_add.f (k : Nat) (l0 : List Int) (l1 : List Int) (a2 : Int) : Option (List Int) := rs_add.l0 k l0 a2 l1 (l1.length : Int) 0
def rs_add.T3 : Bool × List (List Nat × List Nat) := (true, [([], []), ([], []), ([0, 1], [0, 1]), ([2], [2]), ([], []), ([], []), ([4, 5], [4, 5]), ([3, 6], [3, 6]), ([0, 1, 0, 1, 2, 3, 4, 5, 6, 7], [0, 1]), ([8, 7, 6, 0, 1, 2, 3, 4, 5, 6, 7], [7, 8])])
def rs_add.B3 : List Nat := [0, 0, 3, 7, 0, 0, 48, 127, 255, 511]
theorem rs_add.tab3 : rtab .any (opsOf Try.f54 3) = rs_add.T3 := by kernel_rfl
theorem rs_add.bits3 : waitsOk rs_add.T3.2 rs_add.B3 = true := by kernel_rfl
set_option maxHeartbeats 8000000 in
set_option maxRecDepth 100000 in
theorem rs_add.calls (k : Nat) (P0_ : Nat → Prop) (u9000_ : Value) (l0 : List Int) (A1 : Option Addr) (c1 : Nat) (l1 : List Int) (a2 : Int) (r : List Int) (w0 w : World) (hB : Below w0.heap.size w0 w) (ho0 : Kd.R (Kd.int .u8) 5 w w0.heap.size P0_ u9000_ l0) (hr1 : ∀ W_, Kept w W_ (fun k_ => P0_ k_) → Kd.C (Kd.int .u8) W_ A1 l1.length l1) (hc1 : l1.length ≤ c1) (h : rs_add.f k l0 l1 a2 = some r) :
    Calls Try.prog 54 #[u9000_, .slice A1 l1.length c1, .int .u8 a2] w fun e w' => e = .returned (.tuple #[]) ∧ Kd.R (Kd.int .u8) 5 w' w0.heap.size (fun k_ => (P0_ k_ ∨ w.heap.size ≤ k_)) u9000_ r ∧ Below w0.heap.size w0 w' ∧ Kept w w' (fun k_ => P0_ k_) := by
  have HO0 := Aside0.mk (show Kd.R (Kd.int .u8) 5 w w0.heap.size (fun k_ => (P0_ k_ ∨ w.heap.size ≤ k_)) u9000_ l0 from Kd.R_mono ho0 (fun k_ hk => (.inl hk)))
  have HR1 := Aside0.mk hr1
  have HC1 := Aside0.mk hc1
  clear hr1 hc1
  have HK := Aside0.mk (Kept.refl w (fun k_ => P0_ k_))
  have HW0 := Aside0.mk hB.size
  have HB := Aside0.mk hB
  clear hB
  have H : (rs_add.l0 k l0 a2 l1 (l1.length : Int) 0) = some r := h
  clear h
  have H' := Aside0.mk H
  clear H
  go_enter Try.func54, Try.ntmps54
  go_wp2
  go_loopg [10] k (fun kq v10 w' => ∃ (x0_1 : List Int) (x10_1 : Int), v10 = .int .i64 x10_1 ∧ Aside0 (rs_add.l0 kq x0_1 a2 l1 (l1.length : Int) x10_1 = some r) ∧ Aside0 (kq ≤ k) ∧ Aside0 (Kd.R (Kd.int .u8) 5 w' w0.heap.size (fun k_ => (P0_ k_ ∨ w.heap.size ≤ k_)) u9000_ x0_1) ∧ Aside0 (Kept w w' (fun k_ => P0_ k_)) ∧ Aside0 (Below w0.heap.size w0 w'))
  case atStart => exact ⟨(l0), (0), (by first | rfl | (simp; done) | (simp [*]; done)), H', ⟨Nat.le_refl _⟩, ⟨by (with_reducible repeat (first | apply Kd.R_alloc | apply Kd.R_drewN | apply Kd.R_drew)); exact HO0.out⟩, ⟨by repeat (first | (with_reducible first | exact HK.out | apply Kept.alloc | apply Kept.drewN | apply Kept.drew) | exact HK.out)⟩, ⟨by repeat (first | (with_reducible first | exact HB.out | apply below_alloc | apply pw_below_drewN | apply below_drew1) | exact HB.out)⟩⟩
  case round =>
    clear H'
    try clear c1
    try clear p2
    obtain ⟨x0_1, x10_1, rfl, HA, HK1, HO_0, HK, HB⟩ := hrel
    cases gk with
    | zero => exact absurd HA.out (by simp [rs_add.l0])
    | succ k1 =>
      have H := HA.out
      clear HA
      simp only [rs_add.l0] at H
      by_cases c4 : x10_1 < (l1.length : Int)
      · rw [if_pos c4] at H
        have c4b0 : decide (x10_1 < (l1.length : Int)) = true := decide_eq_true c4
        clear c4
        by_cases c5 : 0 ≤ x10_1
        · rw [if_pos c5] at H
          have c5b0 : decide (0 ≤ x10_1) = true := decide_eq_true c5
          clear c5
          by_cases c6 : x10_1 < (l1.length : Int)
          · rw [if_pos c6] at H
            have c6b0 : decide (x10_1 < (l1.length : Int)) = true := decide_eq_true c6
            clear c6
            by_cases c7 : x10_1 < (x0_1.length : Int)
            · rw [if_pos c7] at H
              have c7b0 : decide (x10_1 < (x0_1.length : Int)) = true := decide_eq_true c7
              clear c7
              replace H := Option.bind_eq_some_iff.mp H
              obtain ⟨t109, A80, H⟩ := H
              replace H : (rs_add.l0 k1 (x0_1.set (x10_1 : Int).toNat (Go.bits .xor .u8 (rd x0_1 x10_1) t109)) a2 l1 (l1.length : Int) (wrap64 (x10_1 + 1))) = some r := H
              have A8 := Aside0.mk A80
              clear A80
              obtain ⟨y110, hy110⟩ : ∃ y_ : List Int, y_ = (x0_1.set (x10_1 : Int).toNat (Go.bits .xor .u8 (rd x0_1 x10_1) t109)) := ⟨_, rfl⟩
              replace H : (rs_add.l0 k1 y110 a2 l1 (l1.length : Int) (wrap64 (x10_1 + 1))) = some r := by first | (rw [hy110]; with_reducible exact H) | (have H2_ := (Option.bind_some _ _).symm.trans H; rw [hy110]; with_reducible exact H2_) | (have H2_ := (Option.bind_some _ _).symm.trans H; with_reducible exact H2_) | with_reducible exact H | (rw [hy110]; exact H) | exact H
              have Ny110 := Aside0.mk hy110
              clear hy110
              have H' := Aside0.mk H
              clear H
              have p107 : 0 ≤ (x10_1 : Int) := of_decide_eq_true (by first | (with_reducible assumption) | assumption)
              have q107 : x10_1 < (l1.length : Int) := of_decide_eq_true (by first | (with_reducible assumption) | assumption)
              obtain ⟨ad107, e107, hx107_0⟩ := Kd.at_int (Kd.C_kept_now HR1.out HK.out) x10_1 p107 q107
              cases e107
              replace p107 := eq_true p107
              replace q107 := eq_true q107
              try go_wp2
              have n0_ := Aside0.mk (Kd.R_drew HO_0.out)
              have n1_ := Aside0.mk (Kept.drew HK.out)
              have n2_ := Aside0.mk (below_drew1 HB.out)
              clear HO_0
              clear HK
              clear HB
              have HO_0 := n0_
              have HK := n1_
              have HB := n2_
              clear n0_ n1_ n2_
              obtain ⟨Ao11, co11, eo11⟩ := Kd.R_slice HO_0.out
              (first | subst eo11 | (injection eo11 with f1_ f2_ f3_; have f4_ := f1_.symm; have f5_ := f3_.symm; clear f1_ f2_ f3_; subst f4_; subst f5_))
              have p108 : 0 ≤ (x10_1 : Int) := of_decide_eq_true (by first | (with_reducible assumption) | assumption)
              have q108 : x10_1 < (x0_1.length : Int) := of_decide_eq_true (by first | (with_reducible assumption) | assumption)
              obtain ⟨ad108, e108, hx108_0⟩ := Kd.at_int (Kd.R_reads' HO_0.out).2.2 x10_1 p108 q108
              cases e108
              replace p108 := eq_true p108
              replace q108 := eq_true q108
              refine start_ (n := 10) (S := fun w' => w'.cell? (ad108.add (x10_1).toNat) = some (.int .u8 (rd x0_1 x10_1))) (ds := [9]) #[false, false, false, false, false, false, false, false, false, false] (by kernel_rfl) rfl rfl (hx108_0) (fun hHeld => ?_); refine with_tabW rs_add.tab3 rs_add.bits3 (fun HT_ HW_ => ?_)
              generalize wr.drew = w10 at HO_0 HK HB hx108_0 hHeld ⊢
              refine pure_ (i := 0) (N := some 15) (v := ?_) (a' := ?_) #[true, false, false, false, false, false, false, false, false, false] rfl rfl (any_of HT_.out (by kernel_rfl)) (fun _ _ _ h => h) (Or.inl ⟨by rfl, ?_⟩) ?_ ?_
              rotate_left
              · intro w'
                go_simp
                with_reducible rfl
              rotate_left
              · simp only [Act.put, List.setIfInBounds_toArray, List.set_cons_zero, List.set_cons_succ, i64_w, i32_w]
                rfl
              refine pure_ (i := 1) (N := some 16) (v := ?_) (a' := ?_) #[true, true, false, false, false, false, false, false, false, false] rfl rfl (any_of HT_.out (by kernel_rfl)) (fun _ _ _ h => h) (Or.inl ⟨by rfl, ?_⟩) ?_ ?_
              rotate_left
              · intro w'
                go_simp
                with_reducible rfl
              rotate_left
              · simp only [Act.put, List.setIfInBounds_toArray, List.set_cons_zero, List.set_cons_succ, i64_w, i32_w]
                rfl
              refine pure_ (i := 2) (N := some 17) (v := ?_) (a' := ?_) #[true, true, true, false, false, false, false, false, false, false] rfl rfl (any_of HT_.out (by kernel_rfl)) (fun _ _ _ h => h) (Or.inl ⟨by rfl, ?_⟩) ?_ ?_
              rotate_left
              · intro w'
                go_simp
                with_reducible rfl
              rotate_left
              · simp only [Act.put, List.setIfInBounds_toArray, List.set_cons_zero, List.set_cons_succ, i64_w, i32_w]
                rfl
              refine pure_ (i := 4) (N := some 19) (v := ?_) (a' := ?_) #[true, true, true, false, true, false, false, false, false, false] rfl rfl (any_of HT_.out (by kernel_rfl)) (fun _ _ _ h => h) (Or.inl ⟨by rfl, ?_⟩) ?_ ?_
              rotate_left
              · intro w'
                go_simp
                with_reducible rfl
              rotate_left
              · simp only [Act.put, List.setIfInBounds_toArray, List.set_cons_zero, List.set_cons_succ, i64_w, i32_w]
                rfl
              refine pure_ (i := 5) (N := some 20) (v := ?_) (a' := ?_) #[true, true, true, false, true, true, false, false, false, false] rfl rfl (any_of HT_.out (by kernel_rfl)) (fun _ _ _ h => h) (Or.inl ⟨by rfl, ?_⟩) ?_ ?_
              rotate_left
              · intro w'
                go_simp
                with_reducible rfl
              rotate_left
              · simp only [Act.put, List.setIfInBounds_toArray, List.set_cons_zero, List.set_cons_succ, i64_w, i32_w]
                rfl
              refine take_ (i := 3) (N := some 18) (v := ?_) (a' := ?_) #[true, true, true, true, true, true, false, false, false, false] rfl rfl (take_ofW HT_.out HW_.out (by kernel_rfl)) (fun _ _ _ h => h) (Or.inl ⟨by rfl, ?_⟩) hHeld ?_ ?_
              rotate_left
              · intro w' s0
                go_simp
                with_reducible rfl
              rotate_left
              · simp only [Act.put, List.setIfInBounds_toArray, List.set_cons_zero, List.set_cons_succ, i64_w, i32_w]
                rfl
              refine one_ (i := 6) (N := some 21) #[true, true, true, true, true, true, true, false, false, false] rfl rfl (one_of HT_.out (by kernel_rfl)) (by decide) (fun K hK => ?_)
              refine goes_ Try.func72 (by kernel_rfl) rfl #[.int .u8 (rd l1 x10_1), .int .u8 a2] (by rfl) rfl rfl (by (try simp only [List.map_toArray, List.map_cons, List.map_nil]); first | done | rfl | (simp only [List.length_drop, List.length_take]; rfl)) ?_
              with_reducible refine (gf_Mul.calls (rd l1 x10_1) a2 t109 _ A8.out).mono ?_
              rintro e w12 ⟨rfl, hb⟩
              have HS0_ := (hb.cell (World.block_lt_of_cell? _ _ (hHeld))).trans (hHeld)
              refine ⟨_, rfl, ?_⟩
              have n0_ := Aside0.mk (Kd.R_below (by (with_reducible repeat (first | apply Kd.R_alloc | apply Kd.R_drewN | apply Kd.R_drew)); exact HO_0.out) hb)
              have n1_ := Aside0.mk (Kept.below (S := (fun k_ => P0_ k_)) (by repeat (first | (with_reducible first | exact HK.out | apply Kept.alloc | apply Kept.drewN | apply Kept.drew) | exact HK.out)) hb)
              have n2_ := Aside0.mk (below_step (by repeat (first | (with_reducible first | exact HB.out | apply below_alloc | apply pw_below_drewN | apply below_drew1) | exact HB.out)) hb)
              clear HO_0
              clear HK
              clear HB
              have HO_0 := n0_
              have HK := n1_
              have HB := n2_
              clear n0_ n1_ n2_
              (try clear hb)
              (try clear hb2)
              (try clear hk)
              (try clear hi)
              have p9 : 0 ≤ (x10_1 : Int) := of_decide_eq_true (by first | (with_reducible assumption) | assumption)
              have q9 : (x10_1 : Int) < ((x0_1.length : Int) : Int) := of_decide_eq_true (by first | (with_reducible assumption) | assumption)
              obtain ⟨go9, co9, eo9, gb9, gl9, cl9, HG9⟩ := Kd.R_form HO_0.out (by omega)
              (first | cases eo9 | (injection eo9 with ea_ en_ ec_; (first | subst ea_ | (injection ea_ with ea_; subst ea_)); subst ec_; clear en_))
              have GB9 := Aside0.mk gb9
              have GG9 := Aside0.mk HG9
              clear gb9 gl9 HG9
              have HMgo9 := Aside0.mk (show (P0_ go9 ∨ w.heap.size ≤ go9) from (HO_0.out.1 _ rfl))
              (first | simp only [add_plain] at hx108_0 | skip)
              obtain ⟨hx9_0, hf9_0⟩ := Kd.R_celln 0 HO_0.out (x10_1 : Int) p9 q9
              replace p9 := eq_true p9
              replace q9 := eq_true q9
              have HP13 := Kd.R_putn HO_0.out (x10_1 : Int) (Go.bits .xor .u8 (rd x0_1 x10_1) t109)
              rw [← Ny110.out] at HP13
              have HQ13 := Aside0.mk HP13
              clear HP13
              refine hK.out _ _ (HS0_) (fun hHeld => ?_)
              clear hK K
              refine norm_ (a' := ?_) ?_ ?_
              rotate_left
              · show Act.put _ (some 21) _ = _
                simp only [Act.put, List.setIfInBounds_toArray, List.set_cons_zero, List.set_cons_succ, i64_w, i32_w]
                rfl
              refine pure_ (i := 7) (N := some 22) (v := ?_) (a' := ?_) #[true, true, true, true, true, true, true, true, false, false] rfl rfl (any_of HT_.out (by kernel_rfl)) (fun _ _ _ h => h) (Or.inl ⟨by rfl, ?_⟩) ?_ ?_
              rotate_left
              · intro w'
                go_simp
                with_reducible rfl
              rotate_left
              · simp only [Act.put, List.setIfInBounds_toArray, List.set_cons_zero, List.set_cons_succ, i64_w, i32_w]
                rfl
              refine pure_ (i := 8) (N := some 23) (v := ?_) (a' := ?_) #[true, true, true, true, true, true, true, true, true, false] rfl rfl (any_of HT_.out (by kernel_rfl)) (fun _ _ _ h => h) (Or.inl ⟨by rfl, ?_⟩) ?_ ?_
              rotate_left
              · intro w'
                go_simp
                with_reducible rfl
              rotate_left
              · simp only [Act.put, List.setIfInBounds_toArray, List.set_cons_zero, List.set_cons_succ, i64_w, i32_w]
                rfl
              refine last_ (i := 9) (N := none) #[true, true, true, true, true, true, true, true, true, true] rfl rfl (one_of HT_.out (by kernel_rfl)) (by decide) (fun K hK => ?_)
              refine skip_ (w1 := ?_) (by rfl) rfl ?_ ?_
              rotate_left
              · go_simp
                rfl
              refine hK.out _ _ ?_
              clear hK K
              refine done_ (done_of HT_.out (by kernel_rfl)) ?_
              try go_wp2
              go_roundg k1
              case measure => have := HK1.out; omega
              case rel => exact ⟨(y110), (wrap64 (x10_1 + 1)), (by first | rfl | (simp; done) | (simp [*]; done)), H', ⟨by have := HK1.out; omega⟩, ⟨by (with_reducible repeat (first | apply Kd.R_alloc | apply Kd.R_drewN | apply Kd.R_drew)); exact HQ13.out⟩, ⟨by repeat (first | (with_reducible first | exact HK.out | apply Kept.alloc | apply Kept.drewN | apply Kept.drew | refine Kept.setCell ?_ HMgo9.out _) | exact HK.out)⟩, ⟨by repeat (first | (with_reducible first | exact HB.out | apply below_alloc | apply pw_below_drewN | apply below_drew1 | refine below_set ?_ GB9.out) | exact HB.out)⟩⟩
            · rw [if_neg c7] at H
              exact absurd H (by simp)
          · rw [if_neg c6] at H
            exact absurd H (by simp)
        · rw [if_neg c5] at H
          exact absurd H (by simp)
      · rw [if_neg c4] at H
        have c4b0 : decide (x10_1 < (l1.length : Int)) = false := decide_eq_false c4
        clear c4
        obtain rfl := Option.some.inj H
        go_wp2
        first | go_end0 | ((try simp only [Exit.inBlock, Exit.then]); refine bodyPost_ret (results_none rfl _ _ _) rfl ?_)
        exact ⟨by first | rfl | (simp [errW_none, errW_some] <;> rfl) | (simp [*, errW_none, errW_some] <;> rfl), by (with_reducible repeat (first | apply Kd.R_alloc | apply Kd.R_drewN | apply Kd.R_drew)); exact HO_0.out, by repeat (first | (with_reducible first | exact HB.out | apply below_alloc | apply pw_below_drewN | apply below_drew1) | exact HB.out), by repeat (first | (with_reducible first | exact HK.out | apply Kept.alloc | apply Kept.drewN | apply Kept.drew) | exact HK.out)⟩
end Go.Proofs.Ytodbmgafejclmaa.PRq
namespace Go.Proofs.Ytodbmgafejclmaa.PRq
open Go.RowKit Go.Proofs.YtodbmgafejclmaaW.PrintWords Go.Proofs.YtodbmgafejclmaaW.PrintLast Go.Proofs.YtodbmgafejclmaaW.PrintMore
attribute [local go_sem] max2_int min2_int max_two min_two max_three min_three max_four min_four -- for this text's walks alone
set_option linter.unusedVariables false
set_option linter.unusedSimpArgs false
def gf_Pow.l0 : Nat → Int → Int → Int → Option (Int)
  | 0, _, _, _ => none
  | k + 1, x0, x5, x6 => if x6 > 0 then (if (Go.bits .and .i64 x6 1) = 1 then ((gf_Mul.f x5 x0).bind fun t111 => ((gf_Mul.f x0 x0).bind fun t112 => (gf_Pow.l0 k t112 t111 (x6 / 2)))) else ((gf_Mul.f x0 x0).bind fun t113 => (gf_Pow.l0 k t113 x5 (x6 / 2)))) else (some x5)
def gf_Pow.f (k : Nat) (a0 : Int) (a1 : Int) : Option (Int) := if a0 = 0 then (if a1 = 0 then (some 1) else (some 0)) else (gf_Pow.l0 k a0 1 (Int.tmod (wrap64 ((Int.tmod a1 255) + 255)) 255))
theorem gf_Pow.mono_l : ∀ k, (∀ y0 y1 y2, LeO (gf_Pow.l0 k y0 y1 y2) (gf_Pow.l0 (k + 1) y0 y1 y2))
  | 0 => fun _ _ _ r h => by simp [gf_Pow.l0] at h
  | k + 1 => by
    have ih0 := gf_Pow.mono_l k
    · intro y0 y1 y2
      unfold gf_Pow.l0
      repeat' first
      | (with_reducible exact ih0 _ _ _)
      | (with_reducible exact LeO.refl _)
      | (with_reducible exact LeO.none _)
      | (with_reducible refine LeO.ite ?_ ?_)
      | (with_reducible refine LeO.bind ?_ (fun _ => ?_))
      | exact ih0 _ _ _
      | exact LeO.none _
      | refine LeO.ite ?_ ?_
      | refine LeO.bind ?_ (fun _ => ?_)
theorem gf_Pow.mono : ∀ a0 a1 k, LeO (gf_Pow.f k a0 a1) (gf_Pow.f (k + 1) a0 a1) := by
  intro a0 a1 k
  have ih0 := gf_Pow.mono_l k
  unfold gf_Pow.f
  repeat' first
      | (with_reducible exact ih0 _ _ _)
      | (with_reducible exact LeO.refl _)
      | (with_reducible exact LeO.none _)
      | (with_reducible refine LeO.ite ?_ ?_)
      | (with_reducible refine LeO.bind ?_ (fun _ => ?_))
      | exact ih0 _ _ _
      | exact LeO.none _
      | refine LeO.ite ?_ ?_
      | refine LeO.bind ?_ (fun _ => ?_)
set_option maxHeartbeats 8000000 in
set_option maxRecDepth 100000 in
theorem gf_Pow.calls (k : Nat) (a0 : Int) (a1 : Int) (r : Int) (w : World) (h : gf_Pow.f k a0 a1 = some r) :
    Calls Try.prog 73 #[.int .u8 a0, .int .i64 a1] w fun e w' => e = .returned (.int .u8 r) ∧ Below w.heap.size w w' := by
  have HB := Aside0.mk (Below.refl w.heap.size w)
  have H : (if a0 = 0 then (if a1 = 0 then (some 1) else (some 0)) else (gf_Pow.l0 k a0 1 (Int.tmod (wrap64 ((Int.tmod a1 255) + 255)) 255))) = some r := h
  clear h
  by_cases c3 : a0 = 0
  · rw [if_pos c3] at H
    have c3b0 : (a0 == 0) = true := beq_iff_eq.mpr c3
    have c3b1 : (a0 != 0) = false := bne_eq_false_iff_eq.mpr c3
    clear c3
    by_cases c4 : a1 = 0
    · rw [if_pos c4] at H
      have c4b0 : (a1 == 0) = true := beq_iff_eq.mpr c4
      have c4b1 : (a1 != 0) = false := bne_eq_false_iff_eq.mpr c4
      clear c4
      obtain rfl := Option.some.inj H
      go_enter Try.func73, Try.ntmps73
      go_wp2
      go_ret
      exact ⟨by first | rfl | (simp [errW_none, errW_some] <;> rfl) | (simp [*, errW_none, errW_some] <;> rfl), by repeat (first | (with_reducible first | exact HB.out | apply below_alloc | apply pw_below_drewN | apply below_drew1) | exact HB.out)⟩
    · rw [if_neg c4] at H
      have c4b0 : (a1 == 0) = false := beq_eq_false_iff_ne.mpr c4
      have c4b1 : (a1 != 0) = true := bne_iff_ne.mpr c4
      obtain rfl := Option.some.inj H
      go_enter Try.func73, Try.ntmps73
      go_wp2
      go_ret
      exact ⟨by first | rfl | (simp [errW_none, errW_some] <;> rfl) | (simp [*, errW_none, errW_some] <;> rfl), by repeat (first | (with_reducible first | exact HB.out | apply below_alloc | apply pw_below_drewN | apply below_drew1) | exact HB.out)⟩
  · rw [if_neg c3] at H
    have c3b0 : (a0 == 0) = false := beq_eq_false_iff_ne.mpr c3
    have c3b1 : (a0 != 0) = true := bne_iff_ne.mpr c3
    have H' := Aside0.mk H
    clear H
    go_enter Try.func73, Try.ntmps73
    go_wp2
    go_loopg [0, 5, 6] k (fun kq v0 v5 v6 w' => ∃ (x0_1 : Int) (x5_1 : Int) (x6_1 : Int), v0 = .int .u8 x0_1 ∧ v5 = .int .u8 x5_1 ∧ v6 = .int .i64 x6_1 ∧ Aside0 (gf_Pow.l0 kq x0_1 x5_1 x6_1 = some r) ∧ Aside0 (kq ≤ k) ∧ Aside0 (Below w.heap.size w w'))
    case atStart => exact ⟨(a0), (1), (Int.tmod (wrap64 ((Int.tmod a1 255) + 255)) 255), (by first | rfl | (simp; done) | (simp [*]; done)), (by first | rfl | (simp; done) | (simp [*]; done)), (by first | rfl | (simp; done) | (simp [*]; done)), H', ⟨Nat.le_refl _⟩, ⟨by repeat (first | (with_reducible first | exact HB.out | apply below_alloc | apply pw_below_drewN | apply below_drew1) | exact HB.out)⟩⟩
    case round =>
      clear H'
      try clear p2
      try clear c3
      try clear c3b0
      try clear c3b1
      try clear c4
      try clear c4b0
      try clear c4b1
      obtain ⟨x0_1, x5_1, x6_1, rfl, rfl, rfl, HA, HK1, HB⟩ := hrel
      cases gk with
      | zero => exact absurd HA.out (by simp [gf_Pow.l0])
      | succ k1 =>
        have H := HA.out
        clear HA
        simp only [gf_Pow.l0] at H
        by_cases c5 : x6_1 > 0
        · rw [if_pos c5] at H
          have c5b0 : decide (0 < x6_1) = true := decide_eq_true c5
          clear c5
          by_cases c6 : (Go.bits .and .i64 x6_1 1) = 1
          · rw [if_pos c6] at H
            have c6b0 : ((Go.bits .and .i64 x6_1 1) == 1) = true := beq_iff_eq.mpr c6
            have c6b1 : ((Go.bits .and .i64 x6_1 1) != 1) = false := bne_eq_false_iff_eq.mpr c6
            clear c6
            replace H := Option.bind_eq_some_iff.mp H
            obtain ⟨t111, A70, H⟩ := H
            replace H : ((gf_Mul.f x0_1 x0_1).bind fun t112 => (gf_Pow.l0 k1 t112 t111 (x6_1 / 2))) = some r := H
            have A7 := Aside0.mk A70
            clear A70
            replace H := Option.bind_eq_some_iff.mp H
            obtain ⟨t112, A80, H⟩ := H
            replace H : (gf_Pow.l0 k1 t112 t111 (x6_1 / 2)) = some r := H
            have A8 := Aside0.mk A80
            clear A80
            have H' := Aside0.mk H
            clear H
            go_wp2_with (first | ((with_reducible refine gate_callee (f := 72) rfl ?_); refine goesL_ (some 24) rfl rfl Try.func72 (by kernel_rfl) rfl #[.int .u8 x5_1, .int .u8 x0_1] rfl (by (try simp only [List.map_toArray, List.map_cons, List.map_nil]); first | done | rfl | (simp only [List.length_drop, List.length_take]; rfl)) ?_; (with_reducible refine (gf_Mul.calls x5_1 x0_1 t111 _ A7.out).mono ?_); rintro e w9 ⟨rfl, hb⟩; refine ⟨_, rfl, ?_⟩; have n0_ := Aside0.mk (below_step (by repeat (first | (with_reducible first | exact HB.out | apply below_alloc | apply pw_below_drewN | apply below_drew1) | exact HB.out)) hb); clear HB; have HB := n0_; clear n0_; (try clear hb); (try clear hb2); (try clear hk); (try clear hi)) | ((with_reducible refine gate_callee (f := 72) rfl ?_); refine goesL_ (some 27) rfl rfl Try.func72 (by kernel_rfl) rfl #[.int .u8 x0_1, .int .u8 x0_1] rfl (by (try simp only [List.map_toArray, List.map_cons, List.map_nil]); first | done | rfl | (simp only [List.length_drop, List.length_take]; rfl)) ?_; (with_reducible refine (gf_Mul.calls x0_1 x0_1 t112 _ A8.out).mono ?_); rintro e w10 ⟨rfl, hb⟩; refine ⟨_, rfl, ?_⟩; have n0_ := Aside0.mk (below_step (by repeat (first | (with_reducible first | exact HB.out | apply below_alloc | apply pw_below_drewN | apply below_drew1) | exact HB.out)) hb); clear HB; have HB := n0_; clear n0_; (try clear hb); (try clear hb2); (try clear hk); (try clear hi)))
            go_roundg k1
            case measure => have := HK1.out; omega
            case rel => exact ⟨(t112), (t111), (x6_1 / 2), (by first | rfl | (simp; done) | (simp [*]; done)), (by first | rfl | (simp; done) | (simp [*]; done)), (by first | rfl | (simp; done) | (simp [*]; done)), H', ⟨by have := HK1.out; omega⟩, ⟨by repeat (first | (with_reducible first | exact HB.out | apply below_alloc | apply pw_below_drewN | apply below_drew1) | exact HB.out)⟩⟩
          · rw [if_neg c6] at H
            have c6b0 : ((Go.bits .and .i64 x6_1 1) == 1) = false := beq_eq_false_iff_ne.mpr c6
            have c6b1 : ((Go.bits .and .i64 x6_1 1) != 1) = true := bne_iff_ne.mpr c6
            replace H := Option.bind_eq_some_iff.mp H
            obtain ⟨t113, A110, H⟩ := H
            replace H : (gf_Pow.l0 k1 t113 x5_1 (x6_1 / 2)) = some r := H
            have A11 := Aside0.mk A110
            clear A110
            have H' := Aside0.mk H
            clear H
            go_wp2_with (first | ((with_reducible refine gate_callee (f := 72) rfl ?_); refine goesL_ (some 27) rfl rfl Try.func72 (by kernel_rfl) rfl #[.int .u8 x0_1, .int .u8 x0_1] rfl (by (try simp only [List.map_toArray, List.map_cons, List.map_nil]); first | done | rfl | (simp only [List.length_drop, List.length_take]; rfl)) ?_; (with_reducible refine (gf_Mul.calls x0_1 x0_1 t113 _ A11.out).mono ?_); rintro e w12 ⟨rfl, hb⟩; refine ⟨_, rfl, ?_⟩; have n0_ := Aside0.mk (below_step (by repeat (first | (with_reducible first | exact HB.out | apply below_alloc | apply pw_below_drewN | apply below_drew1) | exact HB.out)) hb); clear HB; have HB := n0_; clear n0_; (try clear hb); (try clear hb2); (try clear hk); (try clear hi)))
            go_roundg k1
            case measure => have := HK1.out; omega
            case rel => exact ⟨(t113), (x5_1), (x6_1 / 2), (by first | rfl | (simp; done) | (simp [*]; done)), (by first | rfl | (simp; done) | (simp [*]; done)), (by first | rfl | (simp; done) | (simp [*]; done)), H', ⟨by have := HK1.out; omega⟩, ⟨by repeat (first | (with_reducible first | exact HB.out | apply below_alloc | apply pw_below_drewN | apply below_drew1) | exact HB.out)⟩⟩
        · rw [if_neg c5] at H
          have c5b0 : decide (0 < x6_1) = false := decide_eq_false c5
          clear c5
          obtain rfl := Option.some.inj H
          go_wp2
          go_ret
          exact ⟨by first | rfl | (simp [errW_none, errW_some] <;> rfl) | (simp [*, errW_none, errW_some] <;> rfl), by repeat (first | (with_reducible first | exact HB.out | apply below_alloc | apply pw_below_drewN | apply below_drew1) | exact HB.out)⟩
def gf_Inv.f (k : Nat) (a0 : Int) : Option (Int) := (gf_Pow.f k a0 (-1)).bind fun t114 => (some t114)
set_option maxHeartbeats 8000000 in
set_option maxRecDepth 100000 in
theorem gf_Inv.calls (k : Nat) (a0 : Int) (r : Int) (w : World) (h : gf_Inv.f k a0 = some r) :
    Calls Try.prog 56 #[.int .u8 a0] w fun e w' => e = .returned (.int .u8 r) ∧ Below w.heap.size w w' := by
  have HB := Aside0.mk (Below.refl w.heap.size w)
  have H : ((gf_Pow.f k a0 (-1)).bind fun t114 => (some t114)) = some r := h
  clear h
  replace H := Option.bind_eq_some_iff.mp H
  obtain ⟨t114, A20, H⟩ := H
  replace H : (some t114) = some r := H
  have A2 := Aside0.mk A20
  clear A20
  obtain rfl := Option.some.inj H
  go_enter Try.func56, Try.ntmps56
  go_wp2_with (first | ((with_reducible refine gate_callee (f := 73) rfl ?_); refine goesL_ (some 4) rfl rfl Try.func73 (by kernel_rfl) rfl #[.int .u8 a0, .int .i64 (-1)] rfl (by (try simp only [List.map_toArray, List.map_cons, List.map_nil]); first | done | rfl | (simp only [List.length_drop, List.length_take]; rfl)) ?_; (with_reducible refine (gf_Pow.calls k a0 (-1) t114 _ A2.out).mono ?_); rintro e w3 ⟨rfl, hb⟩; refine ⟨_, rfl, ?_⟩; have n0_ := Aside0.mk (below_step (by repeat (first | (with_reducible first | exact HB.out | apply below_alloc | apply pw_below_drewN | apply below_drew1) | exact HB.out)) hb); clear HB; have HB := n0_; clear n0_; (try clear hb); (try clear hb2); (try clear hk); (try clear hi)))
  go_ret
  exact ⟨by first | rfl | (simp [errW_none, errW_some] <;> rfl) | (simp [*, errW_none, errW_some] <;> rfl), by repeat (first | (with_reducible first | exact HB.out | apply below_alloc | apply pw_below_drewN | apply below_drew1) | exact HB.out)⟩
def gf_Exp.f (k : Nat) (a0 : Int) : Option (Int) := (gf_Pow.f k 2 a0).bind fun t115 => (some t115)
theorem gf_Exp.mono : ∀ a0 k, LeO (gf_Exp.f k a0) (gf_Exp.f (k + 1) a0) := by
  intro a0 k
  unfold gf_Exp.f
  repeat' first
      | (with_reducible exact gf_Pow.mono _ _ _)
      | (with_reducible exact LeO.refl _)
      | (with_reducible exact LeO.none _)
      | (with_reducible refine LeO.ite ?_ ?_)
      | (with_reducible refine LeO.bind ?_ (fun _ => ?_))
      | exact gf_Pow.mono _ _ _
      | exact LeO.none _
      | refine LeO.ite ?_ ?_
      | refine LeO.bind ?_ (fun _ => ?_)
set_option maxHeartbeats 8000000 in
set_option maxRecDepth 100000 in
theorem gf_Exp.calls (k : Nat) (a0 : Int) (r : Int) (w : World) (h : gf_Exp.f k a0 = some r) :
    Calls Try.prog 57 #[.int .i64 a0] w fun e w' => e = .returned (.int .u8 r) ∧ Below w.heap.size w w' := by
  have HB := Aside0.mk (Below.refl w.heap.size w)
  have H : ((gf_Pow.f k 2 a0).bind fun t115 => (some t115)) = some r := h
  clear h
  replace H := Option.bind_eq_some_iff.mp H
  obtain ⟨t115, A20, H⟩ := H
  replace H : (some t115) = some r := H
  have A2 := Aside0.mk A20
  clear A20
  obtain rfl := Option.some.inj H
  go_enter Try.func57, Try.ntmps57
  go_wp2_with (first | ((with_reducible refine gate_callee (f := 73) rfl ?_); refine goesL_ (some 4) rfl rfl Try.func73 (by kernel_rfl) rfl #[.int .u8 2, .int .i64 a0] rfl (by (try simp only [List.map_toArray, List.map_cons, List.map_nil]); first | done | rfl | (simp only [List.length_drop, List.length_take]; rfl)) ?_; (with_reducible refine (gf_Pow.calls k 2 a0 t115 _ A2.out).mono ?_); rintro e w3 ⟨rfl, hb⟩; refine ⟨_, rfl, ?_⟩; have n0_ := Aside0.mk (below_step (by repeat (first | (with_reducible first | exact HB.out | apply below_alloc | apply pw_below_drewN | apply below_drew1) | exact HB.out)) hb); clear HB; have HB := n0_; clear n0_; (try clear hb); (try clear hb2); (try clear hk); (try clear hi)))
  go_ret
  exact ⟨by first | rfl | (simp [errW_none, errW_some] <;> rfl) | (simp [*, errW_none, errW_some] <;> rfl), by repeat (first | (with_reducible first | exact HB.out | apply below_alloc | apply pw_below_drewN | apply below_drew1) | exact HB.out)⟩
mutual
def rs_sums.l0 : Nat → List Int → List Int → List (List Int) → Int → Int → Option (List Int × List Int)
  | 0, _, _, _, _, _ => none
  | k + 1, x4, x5, x15, x16, x17 => if x17 < x16 then (if 0 ≤ x17 then (if x17 < (x15.length : Int) then ((gf_Exp.f k x17).bind fun t123 => (rs_sums.l1 k x4 x5 t123 x15 x16 x17 (rd_L1 x15 x17) ((rd_L1 x15 x17).length : Int) 0)) else (none)) else (none)) else (some (x4, x5))
def rs_sums.l1 : Nat → List Int → List Int → Int → List (List Int) → Int → Int → List Int → Int → Int → Option (List Int × List Int)
  | 0, _, _, _, _, _, _, _, _, _ => none
  | k + 1, x4, x5, x8, x15, x16, x17, x24, x25, x26 => if x26 < x25 then (if 0 ≤ x26 then (if x26 < (x24.length : Int) then (if x26 < (x4.length : Int) then (if x26 < (x5.length : Int) then ((gf_Mul.f x8 (rd x24 x26)).bind fun t128 => (rs_sums.l1 k (x4.set (x26 : Int).toNat (Go.bits .xor .u8 (rd x4 x26) (rd x24 x26))) (x5.set (x26 : Int).toNat (Go.bits .xor .u8 (rd x5 x26) t128)) x8 x15 x16 x17 x24 x25 (wrap64 (x26 + 1)))) else (none)) else (none)) else (none)) else (none)) else (rs_sums.l0 k x4 x5 x15 x16 (wrap64 (x17 + 1)))
end
def rs_sums.f (k : Nat) (l0 : List (List Int)) (a1 : Int) : Option (List Int × List Int) := if 0 ≤ a1 then (if (a1 : Int).toNat ≤ 281474976710656 then (rs_sums.l0 k (List.replicate (a1 : Int).toNat 0) (List.replicate (a1 : Int).toNat 0) l0 (l0.length : Int) 0) else (none)) else (none)
theorem rs_sums.mono_l : ∀ k, (∀ y0 y1 y2 y3 y4, LeO (rs_sums.l0 k y0 y1 y2 y3 y4) (rs_sums.l0 (k + 1) y0 y1 y2 y3 y4)) ∧ (∀ y0 y1 y2 y3 y4 y5 y6 y7 y8, LeO (rs_sums.l1 k y0 y1 y2 y3 y4 y5 y6 y7 y8) (rs_sums.l1 (k + 1) y0 y1 y2 y3 y4 y5 y6 y7 y8))
  | 0 => ⟨fun _ _ _ _ _ r h => by simp [rs_sums.l0] at h, fun _ _ _ _ _ _ _ _ _ r h => by simp [rs_sums.l1] at h⟩
  | k + 1 => by
    obtain ⟨ih0, ih1⟩ := rs_sums.mono_l k
    refine ⟨?_, ?_⟩
    · intro y0 y1 y2 y3 y4
      unfold rs_sums.l0
      repeat' first
      | (with_reducible exact ih0 _ _ _ _ _)
      | (with_reducible exact ih1 _ _ _ _ _ _ _ _ _)
      | (with_reducible exact gf_Exp.mono _ _)
      | (with_reducible exact LeO.refl _)
      | (with_reducible exact LeO.none _)
      | (with_reducible refine LeO.ite ?_ ?_)
      | (with_reducible refine LeO.bind ?_ (fun _ => ?_))
      | exact ih0 _ _ _ _ _
      | exact ih1 _ _ _ _ _ _ _ _ _
      | exact gf_Exp.mono _ _
      | exact LeO.none _
      | refine LeO.ite ?_ ?_
      | refine LeO.bind ?_ (fun _ => ?_)
    · intro y0 y1 y2 y3 y4 y5 y6 y7 y8
      unfold rs_sums.l1
      repeat' first
      | (with_reducible exact ih0 _ _ _ _ _)
      | (with_reducible exact ih1 _ _ _ _ _ _ _ _ _)
      | (with_reducible exact gf_Exp.mono _ _)
      | (with_reducible exact LeO.refl _)
      | (with_reducible exact LeO.none _)
      | (with_reducible refine LeO.ite ?_ ?_)
      | (with_reducible refine LeO.bind ?_ (fun _ => ?_))
      | exact ih0 _ _ _ _ _
      | exact ih1 _ _ _ _ _ _ _ _ _
      | exact gf_Exp.mono _ _
      | exact LeO.none _
      | refine LeO.ite ?_ ?_
      | refine LeO.bind ?_ (fun _ => ?_)
theorem rs_sums.mono : ∀ a0 a1 k, LeO (rs_sums.f k a0 a1) (rs_sums.f (k + 1) a0 a1) := by
  intro a0 a1 k
  obtain ⟨ih0, ih1⟩ := rs_sums.mono_l k
  unfold rs_sums.f
  repeat' first
      | (with_reducible exact ih0 _ _ _ _ _)
      | (with_reducible exact ih1 _ _ _ _ _ _ _ _ _)
      | (with_reducible exact gf_Exp.mono _ _)
      | (with_reducible exact LeO.refl _)
      | (with_reducible exact LeO.none _)
      | (with_reducible refine LeO.ite ?_ ?_)
      | (with_reducible refine LeO.bind ?_ (fun _ => ?_))
      | exact ih0 _ _ _ _ _
      | exact ih1 _ _ _ _ _ _ _ _ _
      | exact gf_Exp.mono _ _
      | exact LeO.none _
      | refine LeO.ite ?_ ?_
      | refine LeO.bind ?_ (fun _ => ?_)
def rs_sums.T10 : Bool × List (List Nat × List Nat) := (true, [([], []), ([], []), ([0, 1], [0, 1]), ([2], [2]), ([], []), ([], []), ([4, 5], [4, 5]), ([3, 6], [3, 6]), ([0, 1, 0, 1, 2, 3, 4, 5, 6, 7], [0, 1]), ([8, 7, 6, 0, 1, 2, 3, 4, 5, 6, 7], [7, 8])])
def rs_sums.B10 : List Nat := [0, 0, 3, 7, 0, 0, 48, 127, 255, 511]
theorem rs_sums.tab10 : rtab .any (opsOf Try.f53 10) = rs_sums.T10 := by kernel_rfl
theorem rs_sums.bits10 : waitsOk rs_sums.T10.2 rs_sums.B10 = true := by kernel_rfl
set_option maxHeartbeats 8000000 in
set_option maxRecDepth 100000 in
theorem rs_sums.calls (k : Nat) (A0 : Option Addr) (c0 : Nat) (l0 : List (List Int)) (a1 : Int) (r1 : List Int) (r2 : List Int) (w : World) (hr0 : Kd.C (Kd.slice 5 (Kd.int .u8)) w A0 l0.length l0) (hc0 : l0.length ≤ c0) (h : rs_sums.f k l0 a1 = some (r1, r2)) :
    Calls Try.prog 53 #[.slice A0 l0.length c0, .int .i64 a1] w fun e w' => ∃ v0_ v1_ : Value, e = .returned (.tuple #[v0_, v1_]) ∧ Kd.R (Kd.int .u8) 5 w' w.heap.size (fun k_ => some k_ ≠ (v1_ : Value).ownBlock) v0_ r1 ∧ Kd.R (Kd.int .u8) 5 w' w.heap.size (fun k_ => some k_ ≠ (v0_ : Value).ownBlock) v1_ r2 ∧ Below w.heap.size w w' := by
  have HR0 := Aside0.mk hr0
  have HC0 := Aside0.mk hc0
  clear hr0 hc0
  have HB := Aside0.mk (Below.refl w.heap.size w)
  have H : (if 0 ≤ a1 then (if (a1 : Int).toNat ≤ 281474976710656 then (rs_sums.l0 k (List.replicate (a1 : Int).toNat 0) (List.replicate (a1 : Int).toNat 0) l0 (l0.length : Int) 0) else (none)) else (none)) = some (r1, r2) := h
  clear h
  by_cases c3 : 0 ≤ a1
  · rw [if_pos c3] at H
    have c3b0 := eq_true c3
    have c3b1 : decide (0 ≤ a1) = true := decide_eq_true c3
    clear c3
    by_cases c4 : (a1 : Int).toNat ≤ 281474976710656
    · rw [if_pos c4] at H
      have c4b0 := eq_true c4
      have c4b1 : decide ((a1 : Int).toNat ≤ 281474976710656) = true := decide_eq_true c4
      clear c4
      obtain ⟨y116, hy116⟩ : ∃ y_ : List Int, y_ = (List.replicate (a1 : Int).toNat 0) := ⟨_, rfl⟩
      replace H : (rs_sums.l0 k y116 (List.replicate (a1 : Int).toNat 0) l0 (l0.length : Int) 0) = some (r1, r2) := by first | (rw [hy116]; with_reducible exact H) | (have H2_ := (Option.bind_some _ _).symm.trans H; rw [hy116]; with_reducible exact H2_) | (have H2_ := (Option.bind_some _ _).symm.trans H; with_reducible exact H2_) | with_reducible exact H | (rw [hy116]; exact H) | exact H
      have Ny116 := Aside0.mk hy116
      clear hy116
      obtain ⟨y119, hy119⟩ : ∃ y_ : List Int, y_ = (List.replicate (a1 : Int).toNat 0) := ⟨_, rfl⟩
      replace H : (rs_sums.l0 k y116 y119 l0 (l0.length : Int) 0) = some (r1, r2) := by first | (rw [hy119]; with_reducible exact H) | (have H2_ := (Option.bind_some _ _).symm.trans H; rw [hy119]; with_reducible exact H2_) | (have H2_ := (Option.bind_some _ _).symm.trans H; with_reducible exact H2_) | with_reducible exact H | (rw [hy119]; exact H) | exact H
      have Ny119 := Aside0.mk hy119
      clear hy119
      have H' := Aside0.mk H
      clear H
      go_enter Try.func53, Try.ntmps53
      try go_wp2
      have n0_ := Aside0.mk (below_drew1 HB.out)
      clear HB
      have HB := n0_
      clear n0_
      refine start_ (n := 6) (S := fun w' => True) (ds := []) #[false, false, false, false, false, false] (by kernel_rfl) rfl rfl trivial (fun hHeld => ?_)
      generalize w.drew = w5 at HB hHeld ⊢
      refine pure_ (i := 0) (N := some 11) (v := ?_) (a' := ?_) #[true, false, false, false, false, false] rfl rfl (by kernel_rfl) (fun _ _ _ h => h) (Or.inl ⟨by rfl, ?_⟩) ?_ ?_
      rotate_left
      · intro w'
        go_simp
        with_reducible rfl
      rotate_left
      · simp only [Act.put, List.setIfInBounds_toArray, List.set_cons_zero, List.set_cons_succ, i64_w, i32_w]
        rfl
      refine pure_ (i := 2) (N := some 13) (v := ?_) (a' := ?_) #[true, false, true, false, false, false] rfl rfl (by kernel_rfl) (fun _ _ _ h => h) (Or.inl ⟨by rfl, ?_⟩) ?_ ?_
      rotate_left
      · intro w'
        go_simp
        with_reducible rfl
      rotate_left
      · simp only [Act.put, List.setIfInBounds_toArray, List.set_cons_zero, List.set_cons_succ, i64_w, i32_w]
        rfl
      refine join_ (σ := Value × Value) 1 #[true, true, true, true, true, false] (fun s_ => [(12, s_.1), (14, s_.2), (4, s_.1)]) (fun s_ w' => (Kd.R (Kd.int .u8) 5 w' w.heap.size (fun k_ => some k_ ≠ (s_.2 : Value).ownBlock) s_.1 y116) ∧ (Kd.R (Kd.int .u8) 5 w' w.heap.size (fun k_ => some k_ ≠ (s_.1 : Value).ownBlock) s_.2 y119) ∧ (Below w.heap.size w w')) ?_ ?_
      rotate_left
      · intro hCont
        refine two_ (i := 1) (j := 3) (Ni := some 12) (Nj := some 14) #[true, true, true, false, false, false] #[true, false, true, true, false, false] rfl rfl rfl rfl (by kernel_rfl) (by decide) (by decide) (fun K hK => ?_) (fun K hK => ?_)
        · skip
          refine Kd.R_make_step (Kd.int .u8) _ 5 (by rfl) (N := 12) rfl 24 _ _ rfl a1 rfl rfl Try.underlying24 (.int .u8 0) 1 info5 rfl (by decide) (by omega) 0 (ok := fun _ => True) (okp := fun _ => True) rfl (fun _ hk => hk) trivial (of_decide_eq_true (by first | (with_reducible assumption) | assumption)) (Nat.le_trans (Nat.mul_le_mul_right _ (of_decide_eq_true (by first | (with_reducible assumption) | assumption) : a1.toNat ≤ 281474976710656)) (by omega)) (Below.refl _ _) (Nat.le_refl _) ?_
          intro v117 w6 ho7 hb hg_ hnew_
          clear hg_ hnew_
          (first | rw [← Ny116.out] at ho7 | (simp only [Int.reduceToNat] at ho7; rw [← Ny116.out] at ho7))
          have n0_ := Aside0.mk (Kd.R_lower ho7 (below_size (by repeat (first | (with_reducible first | exact HB.out | apply below_alloc | apply pw_below_drewN | apply below_drew1) | exact HB.out))))
          have n1_ := Aside0.mk (below_step (by repeat (first | (with_reducible first | exact HB.out | apply below_alloc | apply pw_below_drewN | apply below_drew1) | exact HB.out)) hb)
          clear HB
          have HO118 := n0_
          have HB := n1_
          clear n0_ n1_
          clear hb ho7
          refine hK.out _ _ trivial (fun hHeld => ?_)
          clear hK K
          refine norm_ (a' := ?_) ?_ ?_
          rotate_left
          · show Act.put _ (some 12) _ = _
            simp only [Act.put, List.setIfInBounds_toArray, List.set_cons_zero, List.set_cons_succ, i64_w, i32_w]
            rfl
          refine pure_ (i := 4) (N := some 4) (v := ?_) (a' := ?_) #[true, true, true, false, true, false] rfl rfl (by kernel_rfl) (fun _ _ _ h => h) (Or.inl ⟨by rfl, ?_⟩) ?_ ?_
          rotate_left
          · intro w'
            go_simp
            with_reducible rfl
          rotate_left
          · simp only [Act.put, List.setIfInBounds_toArray, List.set_cons_zero, List.set_cons_succ, i64_w, i32_w]
            rfl
          refine one_ (i := 3) (N := some 14) #[true, true, true, true, true, false] rfl rfl (by kernel_rfl) (by decide) (fun K hK => ?_)
          refine Kd.R_make_step (Kd.int .u8) _ 5 (by rfl) (N := 14) rfl 24 _ _ rfl a1 rfl rfl Try.underlying24 (.int .u8 0) 1 info5 rfl (by decide) (by omega) 0 (ok := fun _ => True) (okp := fun _ => True) rfl (fun _ hk => hk) trivial (of_decide_eq_true (by first | (with_reducible assumption) | assumption)) (Nat.le_trans (Nat.mul_le_mul_right _ (of_decide_eq_true (by first | (with_reducible assumption) | assumption) : a1.toNat ≤ 281474976710656)) (by omega)) (Below.refl _ _) (Nat.le_refl _) ?_
          intro v120 w8 ho9 hb hg_ hnew_
          clear hg_ hnew_
          (first | rw [← Ny119.out] at ho9 | (simp only [Int.reduceToNat] at ho9; rw [← Ny119.out] at ho9))
          have n0_ := Aside0.mk (Kd.R_elder' (by (with_reducible repeat (first | apply Kd.R_alloc | apply Kd.R_drewN | apply Kd.R_drew)); exact HO118.out) (Kd.R_base ho9) hb)
          have n1_ := Aside0.mk (Kd.R_lower (Kd.R_new' ho9 (Kd.R_lt (by (with_reducible repeat (first | apply Kd.R_alloc | apply Kd.R_drewN | apply Kd.R_drew)); exact HO118.out))) (below_size (by repeat (first | (with_reducible first | exact HB.out | apply below_alloc | apply pw_below_drewN | apply below_drew1) | exact HB.out))))
          have n2_ := Aside0.mk (below_step (by repeat (first | (with_reducible first | exact HB.out | apply below_alloc | apply pw_below_drewN | apply below_drew1) | exact HB.out)) hb)
          clear HO118
          clear HB
          have HO118 := n0_
          have HO121 := n1_
          have HB := n2_
          clear n0_ n1_ n2_
          clear hb ho9
          refine hK.out _ _ trivial (fun hHeld => ?_)
          clear hK K
          refine norm_ (a' := ?_) ?_ ?_
          rotate_left
          · show Act.put _ (some 14) _ = _
            simp only [Act.put, List.setIfInBounds_toArray, List.set_cons_zero, List.set_cons_succ, i64_w, i32_w]
            rfl
          exact norm_ (by simp only [putAll, Act.put, List.setIfInBounds_toArray, List.set_cons_zero, List.set_cons_succ]) (hCont (v117, v120) _ ⟨(by (with_reducible repeat (first | apply Kd.R_alloc | apply Kd.R_drewN | apply Kd.R_drew)); exact Kd.R_mono HO118.out (fun _ hk => hk.2)), (by (with_reducible repeat (first | apply Kd.R_alloc | apply Kd.R_drewN | apply Kd.R_drew)); exact Kd.R_mono HO121.out (fun _ hk => hk.2)), (by repeat (first | (with_reducible first | exact HB.out | apply below_alloc | apply pw_below_drewN | apply below_drew1) | exact HB.out))⟩)
        · skip
          refine Kd.R_make_step (Kd.int .u8) _ 5 (by rfl) (N := 14) rfl 24 _ _ rfl a1 rfl rfl Try.underlying24 (.int .u8 0) 1 info5 rfl (by decide) (by omega) 0 (ok := fun _ => True) (okp := fun _ => True) rfl (fun _ hk => hk) trivial (of_decide_eq_true (by first | (with_reducible assumption) | assumption)) (Nat.le_trans (Nat.mul_le_mul_right _ (of_decide_eq_true (by first | (with_reducible assumption) | assumption) : a1.toNat ≤ 281474976710656)) (by omega)) (Below.refl _ _) (Nat.le_refl _) ?_
          intro v120 w6 ho7 hb hg_ hnew_
          clear hg_ hnew_
          (first | rw [← Ny119.out] at ho7 | (simp only [Int.reduceToNat] at ho7; rw [← Ny119.out] at ho7))
          have n0_ := Aside0.mk (Kd.R_lower ho7 (below_size (by repeat (first | (with_reducible first | exact HB.out | apply below_alloc | apply pw_below_drewN | apply below_drew1) | exact HB.out))))
          have n1_ := Aside0.mk (below_step (by repeat (first | (with_reducible first | exact HB.out | apply below_alloc | apply pw_below_drewN | apply below_drew1) | exact HB.out)) hb)
          clear HB
          have HO121 := n0_
          have HB := n1_
          clear n0_ n1_
          clear hb ho7
          refine hK.out _ _ trivial (fun hHeld => ?_)
          clear hK K
          refine norm_ (a' := ?_) ?_ ?_
          rotate_left
          · show Act.put _ (some 14) _ = _
            simp only [Act.put, List.setIfInBounds_toArray, List.set_cons_zero, List.set_cons_succ, i64_w, i32_w]
            rfl
          refine one_ (i := 1) (N := some 12) #[true, true, true, true, false, false] rfl rfl (by kernel_rfl) (by decide) (fun K hK => ?_)
          refine Kd.R_make_step (Kd.int .u8) _ 5 (by rfl) (N := 12) rfl 24 _ _ rfl a1 rfl rfl Try.underlying24 (.int .u8 0) 1 info5 rfl (by decide) (by omega) 0 (ok := fun _ => True) (okp := fun _ => True) rfl (fun _ hk => hk) trivial (of_decide_eq_true (by first | (with_reducible assumption) | assumption)) (Nat.le_trans (Nat.mul_le_mul_right _ (of_decide_eq_true (by first | (with_reducible assumption) | assumption) : a1.toNat ≤ 281474976710656)) (by omega)) (Below.refl _ _) (Nat.le_refl _) ?_
          intro v117 w8 ho9 hb hg_ hnew_
          clear hg_ hnew_
          (first | rw [← Ny116.out] at ho9 | (simp only [Int.reduceToNat] at ho9; rw [← Ny116.out] at ho9))
          have n0_ := Aside0.mk (Kd.R_elder' (by (with_reducible repeat (first | apply Kd.R_alloc | apply Kd.R_drewN | apply Kd.R_drew)); exact HO121.out) (Kd.R_base ho9) hb)
          have n1_ := Aside0.mk (Kd.R_lower (Kd.R_new' ho9 (Kd.R_lt (by (with_reducible repeat (first | apply Kd.R_alloc | apply Kd.R_drewN | apply Kd.R_drew)); exact HO121.out))) (below_size (by repeat (first | (with_reducible first | exact HB.out | apply below_alloc | apply pw_below_drewN | apply below_drew1) | exact HB.out))))
          have n2_ := Aside0.mk (below_step (by repeat (first | (with_reducible first | exact HB.out | apply below_alloc | apply pw_below_drewN | apply below_drew1) | exact HB.out)) hb)
          clear HO121
          clear HB
          have HO121 := n0_
          have HO118 := n1_
          have HB := n2_
          clear n0_ n1_ n2_
          clear hb ho9
          refine hK.out _ _ trivial (fun hHeld => ?_)
          clear hK K
          refine norm_ (a' := ?_) ?_ ?_
          rotate_left
          · show Act.put _ (some 12) _ = _
            simp only [Act.put, List.setIfInBounds_toArray, List.set_cons_zero, List.set_cons_succ, i64_w, i32_w]
            rfl
          refine pure_ (i := 4) (N := some 4) (v := ?_) (a' := ?_) #[true, true, true, true, true, false] rfl rfl (by kernel_rfl) (fun _ _ _ h => h) (Or.inl ⟨by rfl, ?_⟩) ?_ ?_
          rotate_left
          · intro w'
            go_simp
            with_reducible rfl
          rotate_left
          · simp only [Act.put, List.setIfInBounds_toArray, List.set_cons_zero, List.set_cons_succ, i64_w, i32_w]
            rfl
          exact norm_ (by simp only [putAll, Act.put, List.setIfInBounds_toArray, List.set_cons_zero, List.set_cons_succ]) (hCont (v117, v120) _ ⟨(by (with_reducible repeat (first | apply Kd.R_alloc | apply Kd.R_drewN | apply Kd.R_drew)); exact Kd.R_mono HO118.out (fun _ hk => hk.2)), (by (with_reducible repeat (first | apply Kd.R_alloc | apply Kd.R_drewN | apply Kd.R_drew)); exact Kd.R_mono HO121.out (fun _ hk => hk.2)), (by repeat (first | (with_reducible first | exact HB.out | apply below_alloc | apply pw_below_drewN | apply below_drew1) | exact HB.out))⟩)
      rintro ⟨v117, v120⟩ w10 ⟨h0_, h1_, h2_⟩
      have n0_ : Aside0 (Kd.R (Kd.int .u8) 5 w10 w.heap.size (fun k_ => some k_ ≠ (v120 : Value).ownBlock) v117 y116) := ⟨h0_⟩
      have n1_ : Aside0 (Kd.R (Kd.int .u8) 5 w10 w.heap.size (fun k_ => some k_ ≠ (v117 : Value).ownBlock) v120 y119) := ⟨h1_⟩
      have n2_ : Aside0 (Below w.heap.size w w10) := ⟨h2_⟩
      clear HB
      clear h0_ h1_ h2_
      have HO118 := n0_
      have HO121 := n1_
      have HB := n2_
      clear n0_ n1_ n2_
      have hHeld := trivial
      refine norm_ (a' := ?_) ?_ ?_
      rotate_left
      · simp only [putAll, Act.put, List.setIfInBounds_toArray, List.set_cons_zero, List.set_cons_succ]
        rfl
      refine pure_ (i := 5) (N := some 5) (v := ?_) (a' := ?_) #[true, true, true, true, true, true] rfl rfl (by kernel_rfl) (fun _ _ _ h => h) (Or.inl ⟨by rfl, ?_⟩) ?_ ?_
      rotate_left
      · intro w'
        go_simp
        with_reducible rfl
      rotate_left
      · simp only [Act.put, List.setIfInBounds_toArray, List.set_cons_zero, List.set_cons_succ, i64_w, i32_w]
        rfl
      refine done_ (by kernel_rfl) ?_
      try go_wp2
      go_loopg [17] k (fun kq v17 w' => ∃ (x4_1 : List Int) (x5_1 : List Int) (x17_1 : Int), v17 = .int .i64 x17_1 ∧ Aside0 (rs_sums.l0 kq x4_1 x5_1 l0 (l0.length : Int) x17_1 = some (r1, r2)) ∧ Aside0 (kq ≤ k) ∧ Aside0 (Kd.R (Kd.int .u8) 5 w' w.heap.size (fun k_ => some k_ ≠ (v120 : Value).ownBlock) v117 x4_1) ∧ Aside0 (Kd.R (Kd.int .u8) 5 w' w.heap.size (fun k_ => some k_ ≠ (v117 : Value).ownBlock) v120 x5_1) ∧ Aside0 (Below w.heap.size w w'))
      case atStart => exact ⟨(y116), (y119), (0), (by first | rfl | (simp; done) | (simp [*]; done)), H', ⟨Nat.le_refl _⟩, ⟨by (with_reducible repeat (first | apply Kd.R_alloc | apply Kd.R_drewN | apply Kd.R_drew)); exact HO118.out⟩, ⟨by (with_reducible repeat (first | apply Kd.R_alloc | apply Kd.R_drewN | apply Kd.R_drew)); exact HO121.out⟩, ⟨by repeat (first | (with_reducible first | exact HB.out | apply below_alloc | apply pw_below_drewN | apply below_drew1) | exact HB.out)⟩⟩
      case round =>
        clear H'
        try clear p2
        try clear c3
        try clear c3b0
        try clear c3b1
        try clear c4
        try clear c4b0
        try clear c4b1
        try clear c5
        obtain ⟨x4_1, x5_1, x17_1, rfl, HA, HK1, HO_4, HO_5, HB⟩ := hrel
        cases gk with
        | zero => exact absurd HA.out (by simp [rs_sums.l0])
        | succ k1 =>
          have H := HA.out
          clear HA
          simp only [rs_sums.l0] at H
          by_cases c11 : x17_1 < (l0.length : Int)
          · rw [if_pos c11] at H
            have c11b0 : decide (x17_1 < (l0.length : Int)) = true := decide_eq_true c11
            clear c11
            by_cases c12 : 0 ≤ x17_1
            · rw [if_pos c12] at H
              have c12b0 : decide (0 ≤ x17_1) = true := decide_eq_true c12
              clear c12
              by_cases c13 : x17_1 < (l0.length : Int)
              · rw [if_pos c13] at H
                have c13b0 : decide (x17_1 < (l0.length : Int)) = true := decide_eq_true c13
                clear c13
                replace H := Option.bind_eq_some_iff.mp H
                obtain ⟨t123, A140, H⟩ := H
                replace H : (rs_sums.l1 k1 x4_1 x5_1 t123 l0 (l0.length : Int) x17_1 (rd_L1 l0 x17_1) ((rd_L1 l0 x17_1).length : Int) 0) = some (r1, r2) := H
                have A14 := Aside0.mk A140
                clear A140
                have H' := Aside0.mk H
                clear H
                have p122 : 0 ≤ (x17_1 : Int) := of_decide_eq_true (by first | (with_reducible assumption) | assumption)
                have q122 : x17_1 < (l0.length : Int) := of_decide_eq_true (by first | (with_reducible assumption) | assumption)
                obtain ⟨ad122, A122_0, c122_0, e122, hx122_0, hl122_0, hi122_0⟩ := at_L1 HR0.out x17_1 p122 q122
                cases e122
                replace hx122_0 := (HB.out.cell (World.block_lt_of_cell? w _ hx122_0)).trans hx122_0
                have HR122_0 := Aside0.mk hi122_0
                have HC122_0 := Aside0.mk hl122_0
                clear hi122_0 hl122_0
                replace p122 := eq_true p122
                replace q122 := eq_true q122
                go_wp2_with (first | ((with_reducible refine gate_callee (f := 57) rfl ?_); refine goesL_ (some 23) rfl rfl Try.func57 (by kernel_rfl) rfl #[.int .i64 x17_1] rfl (by (try simp only [List.map_toArray, List.map_cons, List.map_nil]); first | done | rfl | (simp only [List.length_drop, List.length_take]; rfl)) ?_; (with_reducible refine (gf_Exp.calls k1 x17_1 t123 _ A14.out).mono ?_); rintro e w15 ⟨rfl, hb⟩; refine ⟨_, rfl, ?_⟩; have n0_ := Aside0.mk (Kd.R_below (by (with_reducible repeat (first | apply Kd.R_alloc | apply Kd.R_drewN | apply Kd.R_drew)); exact HO_4.out) hb); have n1_ := Aside0.mk (Kd.R_below (by (with_reducible repeat (first | apply Kd.R_alloc | apply Kd.R_drewN | apply Kd.R_drew)); exact HO_5.out) hb); have n2_ := Aside0.mk (below_step (by repeat (first | (with_reducible first | exact HB.out | apply below_alloc | apply pw_below_drewN | apply below_drew1) | exact HB.out)) hb); clear HO_4; clear HO_5; clear HB; have HO_4 := n0_; have HO_5 := n1_; have HB := n2_; clear n0_ n1_ n2_; (try clear hb); (try clear hb2); (try clear hk); (try clear hi)))
                go_loopg [26] k1 (fun kq v26 w' => ∃ (x4_2 : List Int) (x5_2 : List Int) (x26_2 : Int), v26 = .int .i64 x26_2 ∧ Aside0 (rs_sums.l1 kq x4_2 x5_2 t123 l0 (l0.length : Int) x17_1 (rd_L1 l0 x17_1) ((rd_L1 l0 x17_1).length : Int) x26_2 = some (r1, r2)) ∧ Aside0 (kq ≤ k1) ∧ Aside0 (Kd.R (Kd.int .u8) 5 w' w.heap.size (fun k_ => some k_ ≠ (v120 : Value).ownBlock) v117 x4_2) ∧ Aside0 (Kd.R (Kd.int .u8) 5 w' w.heap.size (fun k_ => some k_ ≠ (v117 : Value).ownBlock) v120 x5_2) ∧ Aside0 (Below w.heap.size w w'))
                case atStart => exact ⟨(x4_1), (x5_1), (0), (by first | rfl | (simp; done) | (simp [*]; done)), H', ⟨Nat.le_refl _⟩, ⟨by (with_reducible repeat (first | apply Kd.R_alloc | apply Kd.R_drewN | apply Kd.R_drew)); exact HO_4.out⟩, ⟨by (with_reducible repeat (first | apply Kd.R_alloc | apply Kd.R_drewN | apply Kd.R_drew)); exact HO_5.out⟩, ⟨by repeat (first | (with_reducible first | exact HB.out | apply below_alloc | apply pw_below_drewN | apply below_drew1) | exact HB.out)⟩⟩
                case round =>
                  clear H'
                  try clear c1
                  try clear p1
                  try clear q1
                  try clear hx1
                  try clear p2
                  try clear c3
                  try clear c3b0
                  try clear c3b1
                  try clear c4
                  try clear c4b0
                  try clear c4b1
                  try clear c5
                  try clear c11
                  try clear c11b0
                  try clear c12
                  try clear c12b0
                  try clear p12
                  try clear q12
                  try clear hx12
                  try clear c13
                  try clear c13b0
                  try clear hx122_0
                  try clear p122
                  try clear p2
                  try clear q122
                  obtain ⟨x4_2, x5_2, x26_2, rfl, HA, HK2, HO_4, HO_5, HB⟩ := hrel
                  cases gk with
                  | zero => exact absurd HA.out (by simp [rs_sums.l1])
                  | succ k2 =>
                    have H := HA.out
                    clear HA
                    simp only [rs_sums.l1] at H
                    by_cases c16 : x26_2 < ((rd_L1 l0 x17_1).length : Int)
                    · rw [if_pos c16] at H
                      have c16b0 : decide (x26_2 < ((rd_L1 l0 x17_1).length : Int)) = true := decide_eq_true c16
                      clear c16
                      by_cases c17 : 0 ≤ x26_2
                      · rw [if_pos c17] at H
                        have c17b0 : decide (0 ≤ x26_2) = true := decide_eq_true c17
                        clear c17
                        by_cases c18 : x26_2 < ((rd_L1 l0 x17_1).length : Int)
                        · rw [if_pos c18] at H
                          have c18b0 : decide (x26_2 < ((rd_L1 l0 x17_1).length : Int)) = true := decide_eq_true c18
                          clear c18
                          by_cases c19 : x26_2 < (x4_2.length : Int)
                          · rw [if_pos c19] at H
                            have c19b0 : decide (x26_2 < (x4_2.length : Int)) = true := decide_eq_true c19
                            clear c19
                            obtain ⟨y126, hy126⟩ : ∃ y_ : List Int, y_ = (x4_2.set (x26_2 : Int).toNat (Go.bits .xor .u8 (rd x4_2 x26_2) (rd (rd_L1 l0 x17_1) x26_2))) := ⟨_, rfl⟩
                            replace H : (if x26_2 < (x5_2.length : Int) then ((gf_Mul.f t123 (rd (rd_L1 l0 x17_1) x26_2)).bind fun t128 => (rs_sums.l1 k2 y126 (x5_2.set (x26_2 : Int).toNat (Go.bits .xor .u8 (rd x5_2 x26_2) t128)) t123 l0 (l0.length : Int) x17_1 (rd_L1 l0 x17_1) ((rd_L1 l0 x17_1).length : Int) (wrap64 (x26_2 + 1)))) else (none)) = some (r1, r2) := by first | (rw [hy126]; with_reducible exact H) | (have H2_ := (Option.bind_some _ _).symm.trans H; rw [hy126]; with_reducible exact H2_) | (have H2_ := (Option.bind_some _ _).symm.trans H; with_reducible exact H2_) | with_reducible exact H | (rw [hy126]; exact H) | exact H
                            have Ny126 := Aside0.mk hy126
                            clear hy126
                            by_cases c21 : x26_2 < (x5_2.length : Int)
                            · rw [if_pos c21] at H
                              have c21b0 : decide (x26_2 < (x5_2.length : Int)) = true := decide_eq_true c21
                              clear c21
                              replace H := Option.bind_eq_some_iff.mp H
                              obtain ⟨t128, A220, H⟩ := H
                              replace H : (rs_sums.l1 k2 y126 (x5_2.set (x26_2 : Int).toNat (Go.bits .xor .u8 (rd x5_2 x26_2) t128)) t123 l0 (l0.length : Int) x17_1 (rd_L1 l0 x17_1) ((rd_L1 l0 x17_1).length : Int) (wrap64 (x26_2 + 1))) = some (r1, r2) := H
                              have A22 := Aside0.mk A220
                              clear A220
                              obtain ⟨y129, hy129⟩ : ∃ y_ : List Int, y_ = (x5_2.set (x26_2 : Int).toNat (Go.bits .xor .u8 (rd x5_2 x26_2) t128)) := ⟨_, rfl⟩
                              replace H : (rs_sums.l1 k2 y126 y129 t123 l0 (l0.length : Int) x17_1 (rd_L1 l0 x17_1) ((rd_L1 l0 x17_1).length : Int) (wrap64 (x26_2 + 1))) = some (r1, r2) := by first | (rw [hy129]; with_reducible exact H) | (have H2_ := (Option.bind_some _ _).symm.trans H; rw [hy129]; with_reducible exact H2_) | (have H2_ := (Option.bind_some _ _).symm.trans H; with_reducible exact H2_) | with_reducible exact H | (rw [hy129]; exact H) | exact H
                              have Ny129 := Aside0.mk hy129
                              clear hy129
                              have H' := Aside0.mk H
                              clear H
                              have p124 : 0 ≤ (x26_2 : Int) := of_decide_eq_true (by first | (with_reducible assumption) | assumption)
                              have q124 : x26_2 < ((rd_L1 l0 x17_1).length : Int) := of_decide_eq_true (by first | (with_reducible assumption) | assumption)
                              obtain ⟨ad124, e124, hx124_0⟩ := Kd.at_int HR122_0.out x26_2 p124 q124
                              cases e124
                              replace hx124_0 := (HB.out.cell (World.block_lt_of_cell? w _ hx124_0)).trans hx124_0
                              replace p124 := eq_true p124
                              replace q124 := eq_true q124
                              obtain ⟨Ao24, co24, eo24⟩ := Kd.R_slice HO_4.out
                              subst eo24
                              have p125 : 0 ≤ (x26_2 : Int) := of_decide_eq_true (by first | (with_reducible assumption) | assumption)
                              have q125 : x26_2 < (x4_2.length : Int) := of_decide_eq_true (by first | (with_reducible assumption) | assumption)
                              obtain ⟨ad125, e125, hx125_0⟩ := Kd.at_int (Kd.R_reads' HO_4.out).2.2 x26_2 p125 q125
                              cases e125
                              replace p125 := eq_true p125
                              replace q125 := eq_true q125
                              have p20 : 0 ≤ (x26_2 : Int) := of_decide_eq_true (by first | (with_reducible assumption) | assumption)
                              have q20 : (x26_2 : Int) < ((x4_2.length : Int) : Int) := of_decide_eq_true (by first | (with_reducible assumption) | assumption)
                              obtain ⟨go20, co20, eo20, gb20, gl20, cl20, HG20⟩ := Kd.R_form HO_4.out (by omega)
                              (first | cases eo20 | (injection eo20 with ea_ en_ ec_; (first | subst ea_ | (injection ea_ with ea_; subst ea_)); subst ec_; clear en_))
                              have GB20 := Aside0.mk gb20
                              have GG20 := Aside0.mk HG20
                              clear gb20 gl20 HG20
                              (first | simp only [add_plain] at hx125_0 | skip)
                              obtain ⟨hx20_0, hf20_0⟩ := Kd.R_celln 0 HO_4.out (x26_2 : Int) p20 q20
                              replace p20 := eq_true p20
                              replace q20 := eq_true q20
                              have HP25 := Kd.R_putg HO_4.out (x26_2 : Int) (Go.bits .xor .u8 (rd x4_2 x26_2) (rd (rd_L1 l0 x17_1) x26_2))
                              try go_wp2_with (first | ((with_reducible refine gate_store (t := 5) (p := 37) rfl ?_); refine store_event (t := 5) (p := 37) (v := ?vo_w26) (w1 := (wr.setCell ⟨go20, (x26_2 : Int).toNat, none⟩ (.int .u8 (Go.bits .xor .u8 (rd x4_2 x26_2) (rd (rd_L1 l0 x17_1) x26_2))))) ?hg ?ho ?hn ?hr ?_; (case ho => rfl); (case hg => rfl); (case hn => rfl); (case hr => first | (go_simp; done) | (go_simp; rfl)); intro w26 hw; have hg : wr.grownBy w26 (some go20) := (by rw [hw]; exact HP25.2); have hp_ : Kd.R (Kd.int .u8) 5 w26 w.heap.size (fun k_ => some k_ ≠ (v120 : Value).ownBlock) (.slice (some ⟨go20, 0, none⟩) x4_2.length co24) y126 := (by rw [hw, Ny126.out]; exact HP25.1); clear HP25; have n0_ := Aside0.mk (hp_); have n1_ := Aside0.mk (Kd.R_after (v := (.slice (some ⟨go20, 0, none⟩) x4_2.length co24)) (v1 := (.slice (some ⟨go20, 0, none⟩) x4_2.length co24)) (ok := (fun _ => True)) (by (with_reducible repeat (first | apply Kd.R_alloc | apply Kd.R_drewN | apply Kd.R_drew)); exact Kd.R_mono HO_5.out (fun _ hk => ⟨trivial, hk⟩)) hg (.inl rfl)); have n2_ := Aside0.mk ((by rw [hw]; exact below_set (HB.out) GB20.out : Below w.heap.size w w26)); clear HO_4; clear HO_5; clear HB; have HO_4 := n0_; have HO_5 := n1_; have HB := n2_; clear n0_ n1_ n2_; clear hg hw hp_))
                              have n0_ := Aside0.mk (Kd.R_drew HO_4.out)
                              have n1_ := Aside0.mk (Kd.R_drew HO_5.out)
                              have n2_ := Aside0.mk (below_drew1 HB.out)
                              clear HO_4
                              clear HO_5
                              clear HB
                              have HO_4 := n0_
                              have HO_5 := n1_
                              have HB := n2_
                              clear n0_ n1_ n2_
                              obtain ⟨Ao28, co28, eo28⟩ := Kd.R_slice HO_5.out
                              (first | subst eo28 | (injection eo28 with f1_ f2_ f3_; have f4_ := f1_.symm; have f5_ := f3_.symm; clear f1_ f2_ f3_; subst f4_; subst f5_))
                              have p127 : 0 ≤ (x26_2 : Int) := of_decide_eq_true (by first | (with_reducible assumption) | assumption)
                              have q127 : x26_2 < (x5_2.length : Int) := of_decide_eq_true (by first | (with_reducible assumption) | assumption)
                              obtain ⟨ad127, e127, hx127_0⟩ := Kd.at_int (Kd.R_reads' HO_5.out).2.2 x26_2 p127 q127
                              cases e127
                              replace p127 := eq_true p127
                              replace q127 := eq_true q127
                              refine start_ (n := 10) (S := fun w' => w'.cell? (ad127.add (x26_2).toNat) = some (.int .u8 (rd x5_2 x26_2))) (ds := [9]) #[false, false, false, false, false, false, false, false, false, false] (by kernel_rfl) rfl rfl (hx127_0) (fun hHeld => ?_); refine with_tabW rs_sums.tab10 rs_sums.bits10 (fun HT_ HW_ => ?_)
                              generalize w26.drew = w27 at HO_4 HO_5 HB hx127_0 hHeld ⊢
                              refine pure_ (i := 0) (N := some 38) (v := ?_) (a' := ?_) #[true, false, false, false, false, false, false, false, false, false] rfl rfl (any_of HT_.out (by kernel_rfl)) (fun _ _ _ h => h) (Or.inl ⟨by rfl, ?_⟩) ?_ ?_
                              rotate_left
                              · intro w'
                                go_simp
                                with_reducible rfl
                              rotate_left
                              · simp only [Act.put, List.setIfInBounds_toArray, List.set_cons_zero, List.set_cons_succ, i64_w, i32_w]
                                rfl
                              refine pure_ (i := 1) (N := some 39) (v := ?_) (a' := ?_) #[true, true, false, false, false, false, false, false, false, false] rfl rfl (any_of HT_.out (by kernel_rfl)) (fun _ _ _ h => h) (Or.inl ⟨by rfl, ?_⟩) ?_ ?_
                              rotate_left
                              · intro w'
                                go_simp
                                with_reducible rfl
                              rotate_left
                              · simp only [Act.put, List.setIfInBounds_toArray, List.set_cons_zero, List.set_cons_succ, i64_w, i32_w]
                                rfl
                              refine pure_ (i := 2) (N := some 40) (v := ?_) (a' := ?_) #[true, true, true, false, false, false, false, false, false, false] rfl rfl (any_of HT_.out (by kernel_rfl)) (fun _ _ _ h => h) (Or.inl ⟨by rfl, ?_⟩) ?_ ?_
                              rotate_left
                              · intro w'
                                go_simp
                                with_reducible rfl
                              rotate_left
                              · simp only [Act.put, List.setIfInBounds_toArray, List.set_cons_zero, List.set_cons_succ, i64_w, i32_w]
                                rfl
                              refine pure_ (i := 4) (N := some 42) (v := ?_) (a' := ?_) #[true, true, true, false, true, false, false, false, false, false] rfl rfl (any_of HT_.out (by kernel_rfl)) (fun _ _ _ h => h) (Or.inl ⟨by rfl, ?_⟩) ?_ ?_
                              rotate_left
                              · intro w'
                                go_simp
                                with_reducible rfl
                              rotate_left
                              · simp only [Act.put, List.setIfInBounds_toArray, List.set_cons_zero, List.set_cons_succ, i64_w, i32_w]
                                rfl
                              refine pure_ (i := 5) (N := some 43) (v := ?_) (a' := ?_) #[true, true, true, false, true, true, false, false, false, false] rfl rfl (any_of HT_.out (by kernel_rfl)) (fun _ _ _ h => h) (Or.inl ⟨by rfl, ?_⟩) ?_ ?_
                              rotate_left
                              · intro w'
                                go_simp
                                with_reducible rfl
                              rotate_left
                              · simp only [Act.put, List.setIfInBounds_toArray, List.set_cons_zero, List.set_cons_succ, i64_w, i32_w]
                                rfl
                              refine take_ (i := 3) (N := some 41) (v := ?_) (a' := ?_) #[true, true, true, true, true, true, false, false, false, false] rfl rfl (take_ofW HT_.out HW_.out (by kernel_rfl)) (fun _ _ _ h => h) (Or.inl ⟨by rfl, ?_⟩) hHeld ?_ ?_
                              rotate_left
                              · intro w' s0
                                go_simp
                                with_reducible rfl
                              rotate_left
                              · simp only [Act.put, List.setIfInBounds_toArray, List.set_cons_zero, List.set_cons_succ, i64_w, i32_w]
                                rfl
                              refine one_ (i := 6) (N := some 44) #[true, true, true, true, true, true, true, false, false, false] rfl rfl (one_of HT_.out (by kernel_rfl)) (by decide) (fun K hK => ?_)
                              refine goes_ Try.func72 (by kernel_rfl) rfl #[.int .u8 t123, .int .u8 (rd (rd_L1 l0 x17_1) x26_2)] (by rfl) rfl rfl (by (try simp only [List.map_toArray, List.map_cons, List.map_nil]); first | done | rfl | (simp only [List.length_drop, List.length_take]; rfl)) ?_
                              with_reducible refine (gf_Mul.calls t123 (rd (rd_L1 l0 x17_1) x26_2) t128 _ A22.out).mono ?_
                              rintro e w29 ⟨rfl, hb⟩
                              have HS0_ := (hb.cell (World.block_lt_of_cell? _ _ (hHeld))).trans (hHeld)
                              refine ⟨_, rfl, ?_⟩
                              have n0_ := Aside0.mk (Kd.R_below (by (with_reducible repeat (first | apply Kd.R_alloc | apply Kd.R_drewN | apply Kd.R_drew)); exact HO_4.out) hb)
                              have n1_ := Aside0.mk (Kd.R_below (by (with_reducible repeat (first | apply Kd.R_alloc | apply Kd.R_drewN | apply Kd.R_drew)); exact HO_5.out) hb)
                              have n2_ := Aside0.mk (below_step (by repeat (first | (with_reducible first | exact HB.out | apply below_alloc | apply pw_below_drewN | apply below_drew1) | exact HB.out)) hb)
                              clear HO_4
                              clear HO_5
                              clear HB
                              have HO_4 := n0_
                              have HO_5 := n1_
                              have HB := n2_
                              clear n0_ n1_ n2_
                              (try clear hb)
                              (try clear hb2)
                              (try clear hk)
                              (try clear hi)
                              have p23 : 0 ≤ (x26_2 : Int) := of_decide_eq_true (by first | (with_reducible assumption) | assumption)
                              have q23 : (x26_2 : Int) < ((x5_2.length : Int) : Int) := of_decide_eq_true (by first | (with_reducible assumption) | assumption)
                              obtain ⟨go23, co23, eo23, gb23, gl23, cl23, HG23⟩ := Kd.R_form HO_5.out (by omega)
                              (first | cases eo23 | (injection eo23 with ea_ en_ ec_; (first | subst ea_ | (injection ea_ with ea_; subst ea_)); subst ec_; clear en_))
                              have GB23 := Aside0.mk gb23
                              have GG23 := Aside0.mk HG23
                              clear gb23 gl23 HG23
                              (first | simp only [add_plain] at hx127_0 | skip)
                              obtain ⟨hx23_0, hf23_0⟩ := Kd.R_celln 0 HO_5.out (x26_2 : Int) p23 q23
                              replace p23 := eq_true p23
                              replace q23 := eq_true q23
                              have HP30 := Kd.R_putn HO_5.out (x26_2 : Int) (Go.bits .xor .u8 (rd x5_2 x26_2) t128)
                              rw [← Ny129.out] at HP30
                              have HQ30 := Aside0.mk HP30
                              clear HP30
                              refine hK.out _ _ (HS0_) (fun hHeld => ?_)
                              clear hK K
                              refine norm_ (a' := ?_) ?_ ?_
                              rotate_left
                              · show Act.put _ (some 44) _ = _
                                simp only [Act.put, List.setIfInBounds_toArray, List.set_cons_zero, List.set_cons_succ, i64_w, i32_w]
                                rfl
                              refine pure_ (i := 7) (N := some 45) (v := ?_) (a' := ?_) #[true, true, true, true, true, true, true, true, false, false] rfl rfl (any_of HT_.out (by kernel_rfl)) (fun _ _ _ h => h) (Or.inl ⟨by rfl, ?_⟩) ?_ ?_
                              rotate_left
                              · intro w'
                                go_simp
                                with_reducible rfl
                              rotate_left
                              · simp only [Act.put, List.setIfInBounds_toArray, List.set_cons_zero, List.set_cons_succ, i64_w, i32_w]
                                rfl
                              refine pure_ (i := 8) (N := some 46) (v := ?_) (a' := ?_) #[true, true, true, true, true, true, true, true, true, false] rfl rfl (any_of HT_.out (by kernel_rfl)) (fun _ _ _ h => h) (Or.inl ⟨by rfl, ?_⟩) ?_ ?_
                              rotate_left
                              · intro w'
                                go_simp
                                with_reducible rfl
                              rotate_left
                              · simp only [Act.put, List.setIfInBounds_toArray, List.set_cons_zero, List.set_cons_succ, i64_w, i32_w]
                                rfl
                              refine last_ (i := 9) (N := none) #[true, true, true, true, true, true, true, true, true, true] rfl rfl (one_of HT_.out (by kernel_rfl)) (by decide) (fun K hK => ?_)
                              refine skip_ (w1 := ?_) (by rfl) rfl ?_ ?_
                              rotate_left
                              · go_simp
                                rfl
                              refine hK.out _ _ ?_
                              clear hK K
                              refine done_ (done_of HT_.out (by kernel_rfl)) ?_
                              try go_wp2
                              go_roundg k2
                              case measure => have := HK1.out; have := HK2.out; omega
                              case rel => exact ⟨(y126), (y129), (wrap64 (x26_2 + 1)), (by first | rfl | (simp; done) | (simp [*]; done)), H', ⟨by have := HK1.out; have := HK2.out; omega⟩, ⟨by (with_reducible repeat (first | apply Kd.R_alloc | apply Kd.R_drewN | apply Kd.R_drew)); exact Kd.R_mono (Kd.R_far (p := ⟨go23, (x26_2 : Int).toNat, none⟩) (Kd.R_mono HO_4.out (fun k_ hk => (⟨hk, fun e_ => hk (by rw [e_]; rfl)⟩ : _ ∧ k_ ≠ go23))) (fun _ hk => hk.2) (.int .u8 (Go.bits .xor .u8 (rd x5_2 x26_2) t128))) (fun _ hk => hk.1)⟩, ⟨by (with_reducible repeat (first | apply Kd.R_alloc | apply Kd.R_drewN | apply Kd.R_drew)); exact Kd.R_mono HQ30.out (fun _ hk => hk.2)⟩, ⟨by repeat (first | (with_reducible first | exact HB.out | apply below_alloc | apply pw_below_drewN | apply below_drew1 | refine below_set ?_ GB23.out) | exact HB.out)⟩⟩
                            · rw [if_neg c21] at H
                              exact absurd H (by simp)
                          · rw [if_neg c19] at H
                            exact absurd H (by simp)
                        · rw [if_neg c18] at H
                          exact absurd H (by simp)
                      · rw [if_neg c17] at H
                        exact absurd H (by simp)
                    · rw [if_neg c16] at H
                      have c16b0 : decide (x26_2 < ((rd_L1 l0 x17_1).length : Int)) = false := decide_eq_false c16
                      clear c16
                      have H' := Aside0.mk H
                      clear H
                      go_wp2
                      go_roundg k2
                      case measure => have := HK1.out; have := HK2.out; omega
                      case rel => exact ⟨(x4_2), (x5_2), (wrap64 (x17_1 + 1)), (by first | rfl | (simp; done) | (simp [*]; done)), H', ⟨by have := HK1.out; have := HK2.out; omega⟩, ⟨by (with_reducible repeat (first | apply Kd.R_alloc | apply Kd.R_drewN | apply Kd.R_drew)); exact HO_4.out⟩, ⟨by (with_reducible repeat (first | apply Kd.R_alloc | apply Kd.R_drewN | apply Kd.R_drew)); exact HO_5.out⟩, ⟨by repeat (first | (with_reducible first | exact HB.out | apply below_alloc | apply pw_below_drewN | apply below_drew1) | exact HB.out)⟩⟩
              · rw [if_neg c13] at H
                exact absurd H (by simp)
            · rw [if_neg c12] at H
              exact absurd H (by simp)
          · rw [if_neg c11] at H
            have c11b0 : decide (x17_1 < (l0.length : Int)) = false := decide_eq_false c11
            clear c11
            simp only [Option.some.injEq, Prod.mk.injEq] at H
            obtain ⟨rfl, rfl⟩ := H
            go_wp2
            go_ret2
            exact ⟨_, _, by first | rfl | (simp [errW_none, errW_some] <;> rfl) | (simp [*, errW_none, errW_some] <;> rfl), by (with_reducible repeat (first | apply Kd.R_alloc | apply Kd.R_drewN | apply Kd.R_drew)); exact HO_4.out, by (with_reducible repeat (first | apply Kd.R_alloc | apply Kd.R_drewN | apply Kd.R_drew)); exact HO_5.out, by repeat (first | (with_reducible first | exact HB.out | apply below_alloc | apply pw_below_drewN | apply below_drew1) | exact HB.out)⟩
    · rw [if_neg c4] at H
      exact absurd H (by simp)
  · rw [if_neg c3] at H
    exact absurd H (by simp)
end Go.Proofs.Ytodbmgafejclmaa.PRq
namespace Go.Proofs.Ytodbmgafejclmaa.PRq
open Go.RowKit Go.Proofs.YtodbmgafejclmaaW.PrintWords Go.Proofs.YtodbmgafejclmaaW.PrintLast Go.Proofs.YtodbmgafejclmaaW.PrintMore
attribute [local go_sem] max2_int min2_int max_two min_two max_three min_three max_four min_four -- for this text's walks alone
set_option linter.unusedVariables false
set_option linter.unusedSimpArgs false
def rs_alike.l0 : Nat → Int → List (List Int) → Int → Int → Option (Int × Bool)
  | 0, _, _, _, _ => none
  | k + 1, x4, x7, x8, x9 => if x9 < x8 then (if 0 ≤ x9 then (if x9 < (x7.length : Int) then (if x9 > 0 then (if ((rd_L1 x7 x9).length : Int) = x4 then (rs_alike.l0 k ((rd_L1 x7 x9).length : Int) x7 x8 (wrap64 (x9 + 1))) else (some (0, false))) else (rs_alike.l0 k ((rd_L1 x7 x9).length : Int) x7 x8 (wrap64 (x9 + 1)))) else (none)) else (none)) else (some (x4, true))
def rs_alike.f (k : Nat) (l0 : List (List Int)) : Option (Int × Bool) := rs_alike.l0 k 0 l0 (l0.length : Int) 0
theorem rs_alike.mono_l : ∀ k, (∀ y0 y1 y2 y3, LeO (rs_alike.l0 k y0 y1 y2 y3) (rs_alike.l0 (k + 1) y0 y1 y2 y3))
  | 0 => fun _ _ _ _ r h => by simp [rs_alike.l0] at h
  | k + 1 => by
    have ih0 := rs_alike.mono_l k
    · intro y0 y1 y2 y3
      unfold rs_alike.l0
      repeat' first
      | (with_reducible exact ih0 _ _ _ _)
      | (with_reducible exact LeO.refl _)
      | (with_reducible exact LeO.none _)
      | (with_reducible refine LeO.ite ?_ ?_)
      | (with_reducible refine LeO.bind ?_ (fun _ => ?_))
      | exact ih0 _ _ _ _
      | exact LeO.none _
      | refine LeO.ite ?_ ?_
      | refine LeO.bind ?_ (fun _ => ?_)
theorem rs_alike.mono : ∀ a0 k, LeO (rs_alike.f k a0) (rs_alike.f (k + 1) a0) := by
  intro a0 k
  have ih0 := rs_alike.mono_l k
  unfold rs_alike.f
  repeat' first
      | (with_reducible exact ih0 _ _ _ _)
      | (with_reducible exact LeO.refl _)
      | (with_reducible exact LeO.none _)
      | (with_reducible refine LeO.ite ?_ ?_)
      | (with_reducible refine LeO.bind ?_ (fun _ => ?_))
      | exact ih0 _ _ _ _
      | exact LeO.none _
      | refine LeO.ite ?_ ?_
      | refine LeO.bind ?_ (fun _ => ?_)
set_option maxHeartbeats 8000000 in
set_option maxRecDepth 100000 in
theorem rs_alike.calls (k : Nat) (A0 : Option Addr) (c0 : Nat) (l0 : List (List Int)) (r1 : Int) (r2 : Bool) (w : World) (hr0 : Kd.C (Kd.slice 5 (Kd.int .u8)) w A0 l0.length l0) (hc0 : l0.length ≤ c0) (h : rs_alike.f k l0 = some (r1, r2)) :
    Calls Try.prog 58 #[.slice A0 l0.length c0] w fun e w' => e = .returned (.tuple #[.int .i64 r1, .bool r2]) ∧ Drawn0 w w' := by
  have HR0 := Aside0.mk hr0
  have HC0 := Aside0.mk hc0
  clear hr0 hc0
  have H : (rs_alike.l0 k 0 l0 (l0.length : Int) 0) = some (r1, r2) := h
  clear h
  have H' := Aside0.mk H
  clear H
  go_enter Try.func58, Try.ntmps58
  go_wp2
  go_loopg [4, 9] k (fun kq v4 v9 w' => ∃ (x4_1 : Int) (x9_1 : Int), v4 = .int .i64 x4_1 ∧ v9 = .int .i64 x9_1 ∧ Aside0 (rs_alike.l0 kq x4_1 l0 (l0.length : Int) x9_1 = some (r1, r2)) ∧ Aside0 (kq ≤ k) ∧ Drawn0 w w')
  case atStart => exact ⟨(0), (0), (by first | rfl | (simp; done) | (simp [*]; done)), (by first | rfl | (simp; done) | (simp [*]; done)), H', ⟨Nat.le_refl _⟩, by repeat (first | exact Drawn0.refl _ | apply Drawn0.step)⟩
  case round =>
    clear H'
    obtain ⟨x4_1, x9_1, rfl, rfl, HA, HK1, ⟨m1, rfl⟩⟩ := hrel
    cases gk with
    | zero => exact absurd HA.out (by simp [rs_alike.l0])
    | succ k1 =>
      have H := HA.out
      clear HA
      simp only [rs_alike.l0] at H
      by_cases c2 : x9_1 < (l0.length : Int)
      · rw [if_pos c2] at H
        have c2b0 : decide (x9_1 < (l0.length : Int)) = true := decide_eq_true c2
        clear c2
        by_cases c3 : 0 ≤ x9_1
        · rw [if_pos c3] at H
          have c3b0 : decide (0 ≤ x9_1) = true := decide_eq_true c3
          clear c3
          by_cases c4 : x9_1 < (l0.length : Int)
          · rw [if_pos c4] at H
            have c4b0 : decide (x9_1 < (l0.length : Int)) = true := decide_eq_true c4
            clear c4
            by_cases c5 : x9_1 > 0
            · rw [if_pos c5] at H
              have c5b0 : decide (0 < x9_1) = true := decide_eq_true c5
              clear c5
              by_cases c6 : ((rd_L1 l0 x9_1).length : Int) = x4_1
              · rw [if_pos c6] at H
                have c6b0 : (((rd_L1 l0 x9_1).length : Int) == x4_1) = true := beq_iff_eq.mpr c6
                have c6b1 : (((rd_L1 l0 x9_1).length : Int) != x4_1) = false := bne_eq_false_iff_eq.mpr c6
                clear c6
                have H' := Aside0.mk H
                clear H
                have p130 : 0 ≤ (x9_1 : Int) := of_decide_eq_true (by first | (with_reducible assumption) | assumption)
                have q130 : x9_1 < (l0.length : Int) := of_decide_eq_true (by first | (with_reducible assumption) | assumption)
                obtain ⟨ad130, A130_0, c130_0, e130, hx130_0, hl130_0, hi130_0⟩ := at_L1 HR0.out x9_1 p130 q130
                cases e130
                have HR130_0 := Aside0.mk hi130_0
                have HC130_0 := Aside0.mk hl130_0
                clear hi130_0 hl130_0
                replace p130 := eq_true p130
                replace q130 := eq_true q130
                go_wp2
                go_roundg k1
                case measure => have := HK1.out; omega
                case rel => exact ⟨(((rd_L1 l0 x9_1).length : Int)), (wrap64 (x9_1 + 1)), (by first | rfl | (simp; done) | (simp [*]; done)), (by first | rfl | (simp; done) | (simp [*]; done)), H', ⟨by have := HK1.out; omega⟩, by repeat (first | exact Drawn0.refl _ | apply Drawn0.step)⟩
              · rw [if_neg c6] at H
                have c6b0 : (((rd_L1 l0 x9_1).length : Int) == x4_1) = false := beq_eq_false_iff_ne.mpr c6
                have c6b1 : (((rd_L1 l0 x9_1).length : Int) != x4_1) = true := bne_iff_ne.mpr c6
                simp only [Option.some.injEq, Prod.mk.injEq] at H
                obtain ⟨rfl, rfl⟩ := H
                have p130 : 0 ≤ (x9_1 : Int) := of_decide_eq_true (by first | (with_reducible assumption) | assumption)
                have q130 : x9_1 < (l0.length : Int) := of_decide_eq_true (by first | (with_reducible assumption) | assumption)
                obtain ⟨ad130, A130_0, c130_0, e130, hx130_0, hl130_0, hi130_0⟩ := at_L1 HR0.out x9_1 p130 q130
                cases e130
                have HR130_0 := Aside0.mk hi130_0
                have HC130_0 := Aside0.mk hl130_0
                clear hi130_0 hl130_0
                replace p130 := eq_true p130
                replace q130 := eq_true q130
                go_wp2
                go_ret2
                exact ⟨by first | rfl | (simp; done) | (simp [*]; done), by repeat (first | exact Drawn0.refl _ | apply Drawn0.step)⟩
            · rw [if_neg c5] at H
              have c5b0 : decide (0 < x9_1) = false := decide_eq_false c5
              clear c5
              have H' := Aside0.mk H
              clear H
              have p130 : 0 ≤ (x9_1 : Int) := of_decide_eq_true (by first | (with_reducible assumption) | assumption)
              have q130 : x9_1 < (l0.length : Int) := of_decide_eq_true (by first | (with_reducible assumption) | assumption)
              obtain ⟨ad130, A130_0, c130_0, e130, hx130_0, hl130_0, hi130_0⟩ := at_L1 HR0.out x9_1 p130 q130
              cases e130
              have HR130_0 := Aside0.mk hi130_0
              have HC130_0 := Aside0.mk hl130_0
              clear hi130_0 hl130_0
              replace p130 := eq_true p130
              replace q130 := eq_true q130
              go_wp2
              go_roundg k1
              case measure => have := HK1.out; omega
              case rel => exact ⟨(((rd_L1 l0 x9_1).length : Int)), (wrap64 (x9_1 + 1)), (by first | rfl | (simp; done) | (simp [*]; done)), (by first | rfl | (simp; done) | (simp [*]; done)), H', ⟨by have := HK1.out; omega⟩, by repeat (first | exact Drawn0.refl _ | apply Drawn0.step)⟩
          · rw [if_neg c4] at H
            exact absurd H (by simp)
        · rw [if_neg c3] at H
          exact absurd H (by simp)
      · rw [if_neg c2] at H
        have c2b0 : decide (x9_1 < (l0.length : Int)) = false := decide_eq_false c2
        clear c2
        simp only [Option.some.injEq, Prod.mk.injEq] at H
        obtain ⟨rfl, rfl⟩ := H
        go_wp2
        go_ret2
        exact ⟨by first | rfl | (simp; done) | (simp [*]; done), by repeat (first | exact Drawn0.refl _ | apply Drawn0.step)⟩
def rs_Parity.f (k : Nat) (l0 : List (List Int)) : Option (List Int × List Int) := (rs_alike.f k l0).bind fun bt131 => (if bt131.2 = true then (if (l0.length : Int) < 2 then (some (([] : List Int), ([] : List Int))) else (if (l0.length : Int) > 14 then (some (([] : List Int), ([] : List Int))) else ((rs_sums.f k l0 bt131.1).bind fun bt133 => (some (bt133.1, bt133.2))))) else (some (([] : List Int), ([] : List Int))))
theorem rs_Parity.mono : ∀ a0 k, LeO (rs_Parity.f k a0) (rs_Parity.f (k + 1) a0) := by
  intro a0 k
  unfold rs_Parity.f
  repeat' first
      | (with_reducible exact rs_alike.mono _ _)
      | (with_reducible exact rs_sums.mono _ _ _)
      | (with_reducible exact LeO.refl _)
      | (with_reducible exact LeO.none _)
      | (with_reducible refine LeO.ite ?_ ?_)
      | (with_reducible refine LeO.bind ?_ (fun _ => ?_))
      | exact rs_alike.mono _ _
      | exact rs_sums.mono _ _ _
      | exact LeO.none _
      | refine LeO.ite ?_ ?_
      | refine LeO.bind ?_ (fun _ => ?_)
set_option maxHeartbeats 8000000 in
set_option maxRecDepth 100000 in
theorem rs_Parity.calls (k : Nat) (A0 : Option Addr) (c0 : Nat) (l0 : List (List Int)) (r1 : List Int) (r2 : List Int) (w : World) (hr0 : Kd.C (Kd.slice 5 (Kd.int .u8)) w A0 l0.length l0) (hc0 : l0.length ≤ c0) (h : rs_Parity.f k l0 = some (r1, r2)) :
    Calls Try.prog 59 #[.slice A0 l0.length c0] w fun e w' => ∃ v0_ v1_ : Value, e = .returned (.tuple #[v0_, v1_]) ∧ Kd.R (Kd.int .u8) 5 w' w.heap.size (fun k_ => some k_ ≠ (v1_ : Value).ownBlock) v0_ r1 ∧ Kd.R (Kd.int .u8) 5 w' w.heap.size (fun k_ => some k_ ≠ (v0_ : Value).ownBlock) v1_ r2 ∧ Below w.heap.size w w' := by
  have HR0 := Aside0.mk hr0
  have HC0 := Aside0.mk hc0
  clear hr0 hc0
  have HB := Aside0.mk (Below.refl w.heap.size w)
  have H : ((rs_alike.f k l0).bind fun bt131 => (if bt131.2 = true then (if (l0.length : Int) < 2 then (some (([] : List Int), ([] : List Int))) else (if (l0.length : Int) > 14 then (some (([] : List Int), ([] : List Int))) else ((rs_sums.f k l0 bt131.1).bind fun bt133 => (some (bt133.1, bt133.2))))) else (some (([] : List Int), ([] : List Int))))) = some (r1, r2) := h
  clear h
  replace H := Option.bind_eq_some_iff.mp H
  obtain ⟨⟨t131, t132⟩, A20, H⟩ := H
  replace H : (if t132 = true then (if (l0.length : Int) < 2 then (some (([] : List Int), ([] : List Int))) else (if (l0.length : Int) > 14 then (some (([] : List Int), ([] : List Int))) else ((rs_sums.f k l0 t131).bind fun bt133 => (some (bt133.1, bt133.2))))) else (some (([] : List Int), ([] : List Int)))) = some (r1, r2) := H
  have A2 := Aside0.mk A20
  clear A20
  by_cases c3 : t132 = true
  · subst c3
    have H1 : (if (l0.length : Int) < 2 then (some (([] : List Int), ([] : List Int))) else (if (l0.length : Int) > 14 then (some (([] : List Int), ([] : List Int))) else ((rs_sums.f k l0 t131).bind fun bt133 => (some (bt133.1, bt133.2))))) = some (r1, r2) := by rw [if_pos rfl] at H; exact H
    clear H
    have H := H1
    clear H1
    by_cases c4 : (l0.length : Int) < 2
    · rw [if_pos c4] at H
      have c4b0 : decide ((l0.length : Int) < 2) = true := decide_eq_true c4
      have c4b1 : decide (l0.length < 2) = true := decide_eq_true (by omega)
      clear c4
      simp only [Option.some.injEq, Prod.mk.injEq] at H
      obtain ⟨rfl, rfl⟩ := H
      go_enter Try.func59, Try.ntmps59
      go_wp2_with (first | ((with_reducible refine gate_callee (f := 58) rfl ?_); refine goesL_ (some 8) rfl rfl Try.func58 (by kernel_rfl) rfl #[.slice A0 l0.length c0] rfl (by (try simp only [List.map_toArray, List.map_cons, List.map_nil]); first | done | rfl | (simp only [List.length_drop, List.length_take]; rfl)) ?_; (with_reducible refine (rs_alike.calls k _ _ l0 t131 true _ ?side1 ?side2 A2.out).mono ?_); (case side1 => repeat (first | exact HR0.out | (with_reducible refine Kd.C_alloc ?_ _) | (with_reducible refine Kd.C_drewN ?_ _) | (with_reducible refine Kd.C_drew ?_))); (case side2 => exact HC0.out); rintro e w' ⟨rfl, ⟨nd, rfl⟩⟩; refine ⟨_, rfl, ?_⟩))
      go_ret2
      exact ⟨_, _, by first | rfl | (simp [errW_none, errW_some] <;> rfl) | (simp [*, errW_none, errW_some] <;> rfl), by first | exact Kd.R_nil _ _ _ _ _ | exact Kd.N_nil _ _ _ _ _ | exact Kd.V_nil _ _ _ _ _ | exact Kd.Q_nil _ _ _ _ _ | exact Kd.S_nil _ _ _ _ _, by first | exact Kd.R_nil _ _ _ _ _ | exact Kd.N_nil _ _ _ _ _ | exact Kd.V_nil _ _ _ _ _ | exact Kd.Q_nil _ _ _ _ _ | exact Kd.S_nil _ _ _ _ _, by repeat (first | (with_reducible first | exact HB.out | apply below_alloc | apply pw_below_drewN | apply below_drew1) | exact HB.out)⟩
    · rw [if_neg c4] at H
      have c4b0 : decide ((l0.length : Int) < 2) = false := decide_eq_false c4
      have c4b1 : decide (l0.length < 2) = false := decide_eq_false (by omega)
      clear c4
      by_cases c5 : (l0.length : Int) > 14
      · rw [if_pos c5] at H
        have c5b0 : decide (14 < (l0.length : Int)) = true := decide_eq_true c5
        have c5b1 : decide (14 < l0.length) = true := decide_eq_true (by omega)
        clear c5
        simp only [Option.some.injEq, Prod.mk.injEq] at H
        obtain ⟨rfl, rfl⟩ := H
        go_enter Try.func59, Try.ntmps59
        go_wp2_with (first | ((with_reducible refine gate_callee (f := 58) rfl ?_); refine goesL_ (some 8) rfl rfl Try.func58 (by kernel_rfl) rfl #[.slice A0 l0.length c0] rfl (by (try simp only [List.map_toArray, List.map_cons, List.map_nil]); first | done | rfl | (simp only [List.length_drop, List.length_take]; rfl)) ?_; (with_reducible refine (rs_alike.calls k _ _ l0 t131 true _ ?side1 ?side2 A2.out).mono ?_); (case side1 => repeat (first | exact HR0.out | (with_reducible refine Kd.C_alloc ?_ _) | (with_reducible refine Kd.C_drewN ?_ _) | (with_reducible refine Kd.C_drew ?_))); (case side2 => exact HC0.out); rintro e w' ⟨rfl, ⟨nd, rfl⟩⟩; refine ⟨_, rfl, ?_⟩))
        go_ret2
        exact ⟨_, _, by first | rfl | (simp [errW_none, errW_some] <;> rfl) | (simp [*, errW_none, errW_some] <;> rfl), by first | exact Kd.R_nil _ _ _ _ _ | exact Kd.N_nil _ _ _ _ _ | exact Kd.V_nil _ _ _ _ _ | exact Kd.Q_nil _ _ _ _ _ | exact Kd.S_nil _ _ _ _ _, by first | exact Kd.R_nil _ _ _ _ _ | exact Kd.N_nil _ _ _ _ _ | exact Kd.V_nil _ _ _ _ _ | exact Kd.Q_nil _ _ _ _ _ | exact Kd.S_nil _ _ _ _ _, by repeat (first | (with_reducible first | exact HB.out | apply below_alloc | apply pw_below_drewN | apply below_drew1) | exact HB.out)⟩
      · rw [if_neg c5] at H
        have c5b0 : decide (14 < (l0.length : Int)) = false := decide_eq_false c5
        have c5b1 : decide (14 < l0.length) = false := decide_eq_false (by omega)
        clear c5
        replace H := Option.bind_eq_some_iff.mp H
        obtain ⟨⟨t133, t134⟩, A60, H⟩ := H
        replace H : (some (t133, t134)) = some (r1, r2) := H
        have A6 := Aside0.mk A60
        clear A60
        simp only [Option.some.injEq, Prod.mk.injEq] at H
        obtain ⟨rfl, rfl⟩ := H
        go_enter Try.func59, Try.ntmps59
        go_wp2_with (first | ((with_reducible refine gate_callee (f := 58) rfl ?_); refine goesL_ (some 8) rfl rfl Try.func58 (by kernel_rfl) rfl #[.slice A0 l0.length c0] rfl (by (try simp only [List.map_toArray, List.map_cons, List.map_nil]); first | done | rfl | (simp only [List.length_drop, List.length_take]; rfl)) ?_; (with_reducible refine (rs_alike.calls k _ _ l0 t131 true _ ?side1 ?side2 A2.out).mono ?_); (case side1 => repeat (first | exact HR0.out | (with_reducible refine Kd.C_alloc ?_ _) | (with_reducible refine Kd.C_drewN ?_ _) | (with_reducible refine Kd.C_drew ?_))); (case side2 => exact HC0.out); rintro e w' ⟨rfl, ⟨nd, rfl⟩⟩; refine ⟨_, rfl, ?_⟩) | ((with_reducible refine gate_callee (f := 53) rfl ?_); refine goesL_ (some 25) rfl rfl Try.func53 (by kernel_rfl) rfl #[.slice A0 l0.length c0, .int .i64 t131] rfl (by (try simp only [List.map_toArray, List.map_cons, List.map_nil]); first | done | rfl | (simp only [List.length_drop, List.length_take]; rfl)) ?_; (with_reducible refine (rs_sums.calls k _ _ l0 t131 t133 t134 _ ?side1 ?side2 A6.out).mono ?_); (case side1 => repeat (first | exact HR0.out | (with_reducible refine Kd.C_alloc ?_ _) | (with_reducible refine Kd.C_drewN ?_ _) | (with_reducible refine Kd.C_drew ?_))); (case side2 => exact HC0.out); rintro e w7 ⟨v135, v137, rfl, ho0, ho1, hb⟩; refine ⟨_, rfl, ?_⟩; have n0_ := Aside0.mk (Kd.R_lower ho0 (below_size (by repeat (first | (with_reducible first | exact HB.out | apply below_alloc | apply pw_below_drewN | apply below_drew1) | exact HB.out)))); have n1_ := Aside0.mk (Kd.R_lower ho1 (below_size (by repeat (first | (with_reducible first | exact HB.out | apply below_alloc | apply pw_below_drewN | apply below_drew1) | exact HB.out)))); have n2_ := Aside0.mk (below_step (by repeat (first | (with_reducible first | exact HB.out | apply below_alloc | apply pw_below_drewN | apply below_drew1) | exact HB.out)) hb); clear HB; have HO136 := n0_; have HO138 := n1_; have HB := n2_; clear n0_ n1_ n2_; (try clear hb); (try clear hb2); (try clear hk); (try clear hi); (try clear ho0); (try clear ho1)))
        go_ret2
        exact ⟨_, _, by first | rfl | (simp [errW_none, errW_some] <;> rfl) | (simp [*, errW_none, errW_some] <;> rfl), by (with_reducible repeat (first | apply Kd.R_alloc | apply Kd.R_drewN | apply Kd.R_drew)); exact HO136.out, by (with_reducible repeat (first | apply Kd.R_alloc | apply Kd.R_drewN | apply Kd.R_drew)); exact HO138.out, by repeat (first | (with_reducible first | exact HB.out | apply below_alloc | apply pw_below_drewN | apply below_drew1) | exact HB.out)⟩
  · replace c3 := Bool.eq_false_iff.mpr c3
    subst c3
    have H1 : (some (([] : List Int), ([] : List Int))) = some (r1, r2) := by rw [if_neg (show ¬ (false = true) by decide)] at H; exact H
    clear H
    have H := H1
    clear H1
    simp only [Option.some.injEq, Prod.mk.injEq] at H
    obtain ⟨rfl, rfl⟩ := H
    go_enter Try.func59, Try.ntmps59
    go_wp2_with (first | ((with_reducible refine gate_callee (f := 58) rfl ?_); refine goesL_ (some 8) rfl rfl Try.func58 (by kernel_rfl) rfl #[.slice A0 l0.length c0] rfl (by (try simp only [List.map_toArray, List.map_cons, List.map_nil]); first | done | rfl | (simp only [List.length_drop, List.length_take]; rfl)) ?_; (with_reducible refine (rs_alike.calls k _ _ l0 t131 false _ ?side1 ?side2 A2.out).mono ?_); (case side1 => repeat (first | exact HR0.out | (with_reducible refine Kd.C_alloc ?_ _) | (with_reducible refine Kd.C_drewN ?_ _) | (with_reducible refine Kd.C_drew ?_))); (case side2 => exact HC0.out); rintro e w' ⟨rfl, ⟨nd, rfl⟩⟩; refine ⟨_, rfl, ?_⟩))
    go_ret2
    exact ⟨_, _, by first | rfl | (simp [errW_none, errW_some] <;> rfl) | (simp [*, errW_none, errW_some] <;> rfl), by first | exact Kd.R_nil _ _ _ _ _ | exact Kd.N_nil _ _ _ _ _ | exact Kd.V_nil _ _ _ _ _ | exact Kd.Q_nil _ _ _ _ _ | exact Kd.S_nil _ _ _ _ _, by first | exact Kd.R_nil _ _ _ _ _ | exact Kd.N_nil _ _ _ _ _ | exact Kd.V_nil _ _ _ _ _ | exact Kd.Q_nil _ _ _ _ _ | exact Kd.S_nil _ _ _ _ _, by repeat (first | (with_reducible first | exact HB.out | apply below_alloc | apply pw_below_drewN | apply below_drew1) | exact HB.out)⟩
def slices_Equal_byte_byte.l0 : Nat → List Int → List Int → Int → Int → Option (Bool)
  | 0, _, _, _, _ => none
  | k + 1, x0, x1, x12, x13 => if x13 < x12 then (if 0 ≤ x13 then (if x13 < (x0.length : Int) then (if x13 < (x1.length : Int) then (if (rd x0 x13) = (rd x1 x13) then (slices_Equal_byte_byte.l0 k x0 x1 x12 (wrap64 (x13 + 1))) else (some false)) else (none)) else (none)) else (none)) else (some true)
def slices_Equal_byte_byte.f (k : Nat) (l0 : List Int) (l1 : List Int) : Option (Bool) := if (l0.length : Int) = (l1.length : Int) then (slices_Equal_byte_byte.l0 k l0 l1 (l0.length : Int) 0) else (some false)
theorem slices_Equal_byte_byte.mono_l : ∀ k, (∀ y0 y1 y2 y3, LeO (slices_Equal_byte_byte.l0 k y0 y1 y2 y3) (slices_Equal_byte_byte.l0 (k + 1) y0 y1 y2 y3))
  | 0 => fun _ _ _ _ r h => by simp [slices_Equal_byte_byte.l0] at h
  | k + 1 => by
    have ih0 := slices_Equal_byte_byte.mono_l k
    · intro y0 y1 y2 y3
      unfold slices_Equal_byte_byte.l0
      repeat' first
      | (with_reducible exact ih0 _ _ _ _)
      | (with_reducible exact LeO.refl _)
      | (with_reducible exact LeO.none _)
      | (with_reducible refine LeO.ite ?_ ?_)
      | (with_reducible refine LeO.bind ?_ (fun _ => ?_))
      | exact ih0 _ _ _ _
      | exact LeO.none _
      | refine LeO.ite ?_ ?_
      | refine LeO.bind ?_ (fun _ => ?_)
theorem slices_Equal_byte_byte.mono : ∀ a0 a1 k, LeO (slices_Equal_byte_byte.f k a0 a1) (slices_Equal_byte_byte.f (k + 1) a0 a1) := by
  intro a0 a1 k
  have ih0 := slices_Equal_byte_byte.mono_l k
  unfold slices_Equal_byte_byte.f
  repeat' first
      | (with_reducible exact ih0 _ _ _ _)
      | (with_reducible exact LeO.refl _)
      | (with_reducible exact LeO.none _)
      | (with_reducible refine LeO.ite ?_ ?_)
      | (with_reducible refine LeO.bind ?_ (fun _ => ?_))
      | exact ih0 _ _ _ _
      | exact LeO.none _
      | refine LeO.ite ?_ ?_
      | refine LeO.bind ?_ (fun _ => ?_)
set_option maxHeartbeats 8000000 in
set_option maxRecDepth 100000 in
theorem slices_Equal_byte_byte.calls (k : Nat) (A0 : Option Addr) (c0 : Nat) (l0 : List Int) (A1 : Option Addr) (c1 : Nat) (l1 : List Int) (r : Bool) (w : World) (hr0 : Kd.C (Kd.int .u8) w A0 l0.length l0) (hc0 : l0.length ≤ c0) (hr1 : Kd.C (Kd.int .u8) w A1 l1.length l1) (hc1 : l1.length ≤ c1) (h : slices_Equal_byte_byte.f k l0 l1 = some r) :
    Calls Try.prog 60 #[.slice A0 l0.length c0, .slice A1 l1.length c1] w fun e w' => e = .returned (.bool r) ∧ Drawn0 w w' := by
  have HR0 := Aside0.mk hr0
  have HC0 := Aside0.mk hc0
  clear hr0 hc0
  have HR1 := Aside0.mk hr1
  have HC1 := Aside0.mk hc1
  clear hr1 hc1
  have H : (if (l0.length : Int) = (l1.length : Int) then (slices_Equal_byte_byte.l0 k l0 l1 (l0.length : Int) 0) else (some false)) = some r := h
  clear h
  by_cases c3 : (l0.length : Int) = (l1.length : Int)
  · rw [if_pos c3] at H
    have c3b0 : ((l0.length : Int) == (l1.length : Int)) = true := beq_iff_eq.mpr c3
    have c3b1 : ((l0.length : Int) != (l1.length : Int)) = false := bne_eq_false_iff_eq.mpr c3
    have c3b2 : (l0.length == l1.length) = true := by first | simpa using c3 | (simp at c3 ⊢; omega)
    clear c3
    have H' := Aside0.mk H
    clear H
    go_enter Try.func60, Try.ntmps60
    go_wp2
    repeat (go_quiet (fail); try go_wp2)
    go_loopg [13] k (fun kq v13 w' => ∃ (x13_1 : Int), v13 = .int .i64 x13_1 ∧ Aside0 (slices_Equal_byte_byte.l0 kq l0 l1 (l0.length : Int) x13_1 = some r) ∧ Aside0 (kq ≤ k) ∧ Drawn0 w w')
    case atStart => exact ⟨(0), (by first | rfl | (simp; done) | (simp [*]; done)), H', ⟨Nat.le_refl _⟩, by repeat (first | exact Drawn0.refl _ | apply Drawn0.step)⟩
    case round =>
      clear H'
      try clear c1
      try clear p2
      try clear c3
      try clear c3b0
      try clear c3b1
      try clear c3b2
      obtain ⟨x13_1, rfl, HA, HK1, ⟨m1, rfl⟩⟩ := hrel
      cases gk with
      | zero => exact absurd HA.out (by simp [slices_Equal_byte_byte.l0])
      | succ k1 =>
        have H := HA.out
        clear HA
        simp only [slices_Equal_byte_byte.l0] at H
        by_cases c4 : x13_1 < (l0.length : Int)
        · rw [if_pos c4] at H
          have c4b0 : decide (x13_1 < (l0.length : Int)) = true := decide_eq_true c4
          clear c4
          by_cases c5 : 0 ≤ x13_1
          · rw [if_pos c5] at H
            have c5b0 : decide (0 ≤ x13_1) = true := decide_eq_true c5
            clear c5
            by_cases c6 : x13_1 < (l0.length : Int)
            · rw [if_pos c6] at H
              have c6b0 : decide (x13_1 < (l0.length : Int)) = true := decide_eq_true c6
              clear c6
              by_cases c7 : x13_1 < (l1.length : Int)
              · rw [if_pos c7] at H
                have c7b0 : decide (x13_1 < (l1.length : Int)) = true := decide_eq_true c7
                clear c7
                by_cases c8 : (rd l0 x13_1) = (rd l1 x13_1)
                · rw [if_pos c8] at H
                  have c8b0 : ((rd l0 x13_1) == (rd l1 x13_1)) = true := beq_iff_eq.mpr c8
                  have c8b1 : ((rd l0 x13_1) != (rd l1 x13_1)) = false := bne_eq_false_iff_eq.mpr c8
                  clear c8
                  have H' := Aside0.mk H
                  clear H
                  have p139 : 0 ≤ (x13_1 : Int) := of_decide_eq_true (by first | (with_reducible assumption) | assumption)
                  have q139 : x13_1 < (l0.length : Int) := of_decide_eq_true (by first | (with_reducible assumption) | assumption)
                  obtain ⟨ad139, e139, hx139_0⟩ := Kd.at_int HR0.out x13_1 p139 q139
                  cases e139
                  replace p139 := eq_true p139
                  replace q139 := eq_true q139
                  have p140 : 0 ≤ (x13_1 : Int) := of_decide_eq_true (by first | (with_reducible assumption) | assumption)
                  have q140 : x13_1 < (l1.length : Int) := of_decide_eq_true (by first | (with_reducible assumption) | assumption)
                  obtain ⟨ad140, e140, hx140_0⟩ := Kd.at_int HR1.out x13_1 p140 q140
                  cases e140
                  replace p140 := eq_true p140
                  replace q140 := eq_true q140
                  go_wp2
                  repeat (go_quiet (fail); try go_wp2)
                  go_roundg k1
                  case measure => have := HK1.out; omega
                  case rel => exact ⟨(wrap64 (x13_1 + 1)), (by first | rfl | (simp; done) | (simp [*]; done)), H', ⟨by have := HK1.out; omega⟩, by repeat (first | exact Drawn0.refl _ | apply Drawn0.step)⟩
                · rw [if_neg c8] at H
                  have c8b0 : ((rd l0 x13_1) == (rd l1 x13_1)) = false := beq_eq_false_iff_ne.mpr c8
                  have c8b1 : ((rd l0 x13_1) != (rd l1 x13_1)) = true := bne_iff_ne.mpr c8
                  obtain rfl := Option.some.inj H
                  have p139 : 0 ≤ (x13_1 : Int) := of_decide_eq_true (by first | (with_reducible assumption) | assumption)
                  have q139 : x13_1 < (l0.length : Int) := of_decide_eq_true (by first | (with_reducible assumption) | assumption)
                  obtain ⟨ad139, e139, hx139_0⟩ := Kd.at_int HR0.out x13_1 p139 q139
                  cases e139
                  replace p139 := eq_true p139
                  replace q139 := eq_true q139
                  have p140 : 0 ≤ (x13_1 : Int) := of_decide_eq_true (by first | (with_reducible assumption) | assumption)
                  have q140 : x13_1 < (l1.length : Int) := of_decide_eq_true (by first | (with_reducible assumption) | assumption)
                  obtain ⟨ad140, e140, hx140_0⟩ := Kd.at_int HR1.out x13_1 p140 q140
                  cases e140
                  replace p140 := eq_true p140
                  replace q140 := eq_true q140
                  go_wp2
                  repeat (go_quiet (fail); try go_wp2)
                  go_ret
                  exact ⟨by first | rfl | (simp; done) | (simp [*]; done), by repeat (first | exact Drawn0.refl _ | apply Drawn0.step)⟩
              · rw [if_neg c7] at H
                exact absurd H (by simp)
            · rw [if_neg c6] at H
              exact absurd H (by simp)
          · rw [if_neg c5] at H
            exact absurd H (by simp)
        · rw [if_neg c4] at H
          have c4b0 : decide (x13_1 < (l0.length : Int)) = false := decide_eq_false c4
          clear c4
          obtain rfl := Option.some.inj H
          go_wp2
          repeat (go_quiet (fail); try go_wp2)
          go_ret
          exact ⟨by first | rfl | (simp; done) | (simp [*]; done), by repeat (first | exact Drawn0.refl _ | apply Drawn0.step)⟩
  · rw [if_neg c3] at H
    have c3b0 : ((l0.length : Int) == (l1.length : Int)) = false := beq_eq_false_iff_ne.mpr c3
    have c3b1 : ((l0.length : Int) != (l1.length : Int)) = true := bne_iff_ne.mpr c3
    have c3b2 : (l0.length == l1.length) = false := by first | simpa using c3 | (simp at c3 ⊢; omega)
    obtain rfl := Option.some.inj H
    go_enter Try.func60, Try.ntmps60
    go_wp2
    repeat (go_quiet (fail); try go_wp2)
    go_ret
    exact ⟨by first | rfl | (simp; done) | (simp [*]; done), by repeat (first | exact Drawn0.refl _ | apply Drawn0.step)⟩
def slices_Index_int_int.l0 : Nat → List Int → Int → Int → Int → Option (Int)
  | 0, _, _, _, _ => none
  | k + 1, x0, x1, x7, x8 => if x8 < x7 then (if 0 ≤ x8 then (if x8 < (x0.length : Int) then (if x1 = (rd x0 x8) then (some x8) else (slices_Index_int_int.l0 k x0 x1 x7 (wrap64 (x8 + 1)))) else (none)) else (none)) else (some (-1))
def slices_Index_int_int.f (k : Nat) (l0 : List Int) (a1 : Int) : Option (Int) := slices_Index_int_int.l0 k l0 a1 (l0.length : Int) 0
set_option maxHeartbeats 8000000 in
set_option maxRecDepth 100000 in
theorem slices_Index_int_int.calls (k : Nat) (A0 : Option Addr) (c0 : Nat) (l0 : List Int) (a1 : Int) (r : Int) (w : World) (hr0 : Kd.C (Kd.int .i64) w A0 l0.length l0) (hc0 : l0.length ≤ c0) (h : slices_Index_int_int.f k l0 a1 = some r) :
    Calls Try.prog 75 #[.slice A0 l0.length c0, .int .i64 a1] w fun e w' => e = .returned (.int .i64 r) ∧ Drawn0 w w' := by
  have HR0 := Aside0.mk hr0
  have HC0 := Aside0.mk hc0
  clear hr0 hc0
  have H : (slices_Index_int_int.l0 k l0 a1 (l0.length : Int) 0) = some r := h
  clear h
  have H' := Aside0.mk H
  clear H
  go_enter Try.func75, Try.ntmps75
  go_wp2
  go_loopg [8] k (fun kq v8 w' => ∃ (x8_1 : Int), v8 = .int .i64 x8_1 ∧ Aside0 (slices_Index_int_int.l0 kq l0 a1 (l0.length : Int) x8_1 = some r) ∧ Aside0 (kq ≤ k) ∧ Drawn0 w w')
  case atStart => exact ⟨(0), (by first | rfl | (simp; done) | (simp [*]; done)), H', ⟨Nat.le_refl _⟩, by repeat (first | exact Drawn0.refl _ | apply Drawn0.step)⟩
  case round =>
    clear H'
    try clear p2
    obtain ⟨x8_1, rfl, HA, HK1, ⟨m1, rfl⟩⟩ := hrel
    cases gk with
    | zero => exact absurd HA.out (by simp [slices_Index_int_int.l0])
    | succ k1 =>
      have H := HA.out
      clear HA
      simp only [slices_Index_int_int.l0] at H
      by_cases c3 : x8_1 < (l0.length : Int)
      · rw [if_pos c3] at H
        have c3b0 : decide (x8_1 < (l0.length : Int)) = true := decide_eq_true c3
        clear c3
        by_cases c4 : 0 ≤ x8_1
        · rw [if_pos c4] at H
          have c4b0 : decide (0 ≤ x8_1) = true := decide_eq_true c4
          clear c4
          by_cases c5 : x8_1 < (l0.length : Int)
          · rw [if_pos c5] at H
            have c5b0 : decide (x8_1 < (l0.length : Int)) = true := decide_eq_true c5
            clear c5
            by_cases c6 : a1 = (rd l0 x8_1)
            · rw [if_pos c6] at H
              have c6b0 : (a1 == (rd l0 x8_1)) = true := beq_iff_eq.mpr c6
              have c6b1 : (a1 != (rd l0 x8_1)) = false := bne_eq_false_iff_eq.mpr c6
              clear c6
              obtain rfl := Option.some.inj H
              have p141 : 0 ≤ (x8_1 : Int) := of_decide_eq_true (by first | (with_reducible assumption) | assumption)
              have q141 : x8_1 < (l0.length : Int) := of_decide_eq_true (by first | (with_reducible assumption) | assumption)
              obtain ⟨ad141, e141, hx141_0⟩ := Kd.at_int HR0.out x8_1 p141 q141
              cases e141
              replace p141 := eq_true p141
              replace q141 := eq_true q141
              go_wp2
              go_ret
              exact ⟨by first | rfl | (simp; done) | (simp [*]; done), by repeat (first | exact Drawn0.refl _ | apply Drawn0.step)⟩
            · rw [if_neg c6] at H
              have c6b0 : (a1 == (rd l0 x8_1)) = false := beq_eq_false_iff_ne.mpr c6
              have c6b1 : (a1 != (rd l0 x8_1)) = true := bne_iff_ne.mpr c6
              have H' := Aside0.mk H
              clear H
              have p141 : 0 ≤ (x8_1 : Int) := of_decide_eq_true (by first | (with_reducible assumption) | assumption)
              have q141 : x8_1 < (l0.length : Int) := of_decide_eq_true (by first | (with_reducible assumption) | assumption)
              obtain ⟨ad141, e141, hx141_0⟩ := Kd.at_int HR0.out x8_1 p141 q141
              cases e141
              replace p141 := eq_true p141
              replace q141 := eq_true q141
              go_wp2
              go_roundg k1
              case measure => have := HK1.out; omega
              case rel => exact ⟨(wrap64 (x8_1 + 1)), (by first | rfl | (simp; done) | (simp [*]; done)), H', ⟨by have := HK1.out; omega⟩, by repeat (first | exact Drawn0.refl _ | apply Drawn0.step)⟩
          · rw [if_neg c5] at H
            exact absurd H (by simp)
        · rw [if_neg c4] at H
          exact absurd H (by simp)
      · rw [if_neg c3] at H
        have c3b0 : decide (x8_1 < (l0.length : Int)) = false := decide_eq_false c3
        clear c3
        obtain rfl := Option.some.inj H
        go_wp2
        go_ret
        exact ⟨by first | rfl | (simp; done) | (simp [*]; done), by repeat (first | exact Drawn0.refl _ | apply Drawn0.step)⟩
def slices_Contains_int_int.f (k : Nat) (l0 : List Int) (a1 : Int) : Option (Bool) := (slices_Index_int_int.f k l0 a1).bind fun t142 => (some (decide (t142 ≥ 0)))
set_option maxHeartbeats 8000000 in
set_option maxRecDepth 100000 in
theorem slices_Contains_int_int.calls (k : Nat) (A0 : Option Addr) (c0 : Nat) (l0 : List Int) (a1 : Int) (r : Bool) (w : World) (hr0 : Kd.C (Kd.int .i64) w A0 l0.length l0) (hc0 : l0.length ≤ c0) (h : slices_Contains_int_int.f k l0 a1 = some r) :
    Calls Try.prog 67 #[.slice A0 l0.length c0, .int .i64 a1] w fun e w' => e = .returned (.bool r) ∧ Drawn0 w w' := by
  have HR0 := Aside0.mk hr0
  have HC0 := Aside0.mk hc0
  clear hr0 hc0
  have H : ((slices_Index_int_int.f k l0 a1).bind fun t142 => (some (decide (t142 ≥ 0)))) = some r := h
  clear h
  replace H := Option.bind_eq_some_iff.mp H
  obtain ⟨t142, A30, H⟩ := H
  replace H : (some (decide (t142 ≥ 0))) = some r := H
  have A3 := Aside0.mk A30
  clear A30
  obtain rfl := Option.some.inj H
  go_enter Try.func67, Try.ntmps67
  go_wp2_with (first | ((with_reducible refine gate_callee (f := 75) rfl ?_); refine goesL_ (some 7) rfl rfl Try.func75 (by kernel_rfl) rfl #[.slice A0 l0.length c0, .int .i64 a1] rfl (by (try simp only [List.map_toArray, List.map_cons, List.map_nil]); first | done | rfl | (simp only [List.length_drop, List.length_take]; rfl)) ?_; (with_reducible refine (slices_Index_int_int.calls k _ _ l0 a1 t142 _ ?side1 ?side2 A3.out).mono ?_); (case side1 => repeat (first | exact HR0.out | (with_reducible refine Kd.C_alloc ?_ _) | (with_reducible refine Kd.C_drewN ?_ _) | (with_reducible refine Kd.C_drew ?_))); (case side2 => exact HC0.out); rintro e w' ⟨rfl, ⟨nd, rfl⟩⟩; refine ⟨_, rfl, ?_⟩))
  go_ret
  exact ⟨by first | rfl | (simp; done) | (simp [*]; done), by repeat (first | exact Drawn0.refl _ | apply Drawn0.step)⟩
end Go.Proofs.Ytodbmgafejclmaa.PRq
namespace Go.Proofs.Ytodbmgafejclmaa.Fld
open Go.Proofs.Ytodbmgafejclmaa.Base
set_option linter.unusedSimpArgs false
set_option linter.unusedVariables false
/-- 2 to the n -/
def pw : Nat → Nat
  | 0 => 1
  | n + 1 => tw (pw n)
def twn : Nat → Nat → Nat
  | 0, b => b
  | n + 1, b => tw (twn n b)
theorem all_256 {p : Nat → Bool} (h : (List.range 256).all p = true) {a : Nat} (ha : a < 256) : p a = true := List.all_eq_true.1 h a (by simpa using ha)
set_option maxRecDepth 100000 in
theorem tw_lin_ck : ((List.range 256).all fun a => (List.range 256).all fun b => tw (a ^^^ b) == (tw a ^^^ tw b)) = true := by decide +kernel
theorem tw_lin {a b : Nat} (ha : a < 256) (hb : b < 256) : tw (a ^^^ b) = tw a ^^^ tw b := by
  have := all_256 (all_256 tw_lin_ck ha) hb
  simpa using this
theorem accL_lin : ∀ (n a b c : Nat) (o q : Nat), b < 256 → c < 256 →
    (bitsL n a (b ^^^ c)).foldl (fun o p => if p.1 then o ^^^ p.2 else o) (o ^^^ q) =
      (bitsL n a b).foldl (fun o p => if p.1 then o ^^^ p.2 else o) o ^^^ (bitsL n a c).foldl (fun o p => if p.1 then o ^^^ p.2 else o) q
  | 0, _, _, _, _, _, _, _ => rfl
  | n + 1, a, b, c, o, q, hb, hc => by
    rw [bitsL, bitsL, bitsL]
    by_cases h0 : a = 0
    · simp [h0]
    · rw [if_neg h0, if_neg h0, if_neg h0, tw_lin hb hc]
      simp only [List.foldl_cons]
      by_cases h1 : (a % 2 == 1) = true
      · rw [if_pos h1, if_pos h1, if_pos h1]
        have e : o ^^^ q ^^^ (b ^^^ c) = (o ^^^ b) ^^^ (q ^^^ c) := by
          apply Nat.eq_of_testBit_eq; intro i; simp only [Nat.testBit_xor]
          cases o.testBit i <;> cases q.testBit i <;> cases b.testBit i <;> cases c.testBit i <;> rfl
        rw [e]
        exact accL_lin n _ _ _ _ _ (tw_lt hb) (tw_lt hc)
      · rw [if_neg h1, if_neg h1, if_neg h1]
        exact accL_lin n _ _ _ _ _ (tw_lt hb) (tw_lt hc)
theorem mul_xor (a : Nat) {b c : Nat} (hb : b < 256) (hc : c < 256) : mulN a (b ^^^ c) = mulN a b ^^^ mulN a c := by
  have := accL_lin 8 a b c 0 0 hb hc
  simpa [mulN, accL] using this
theorem two_ck : ((List.range 8).all fun n => (List.range (2 ^ n)).all fun x => (x ^^^ 2 ^ n) == x + 2 ^ n) = true := by decide +kernel
/-- what holds of nought and of the powers of 2, and of sums, holds of all bytes -/
theorem byte_ind {P : Nat → Prop} (h0 : P 0) (h1 : ∀ i, i < 8 → P (2 ^ i)) (hx : ∀ a b, a < 256 → b < 256 → P a → P b → P (a ^^^ b)) : ∀ b, b < 256 → P b := by
  have key : ∀ n, n ≤ 8 → ∀ b, b < 2 ^ n → P b := by
    intro n
    induction n with
    | zero => intro _ b hb; have : b = 0 := by simp at hb; omega
              subst this; exact h0
    | succ n ih =>
      intro hn b hb
      rcases Nat.lt_or_ge b (2 ^ n) with h | h
      · exact ih (by omega) b h
      · have hlt : b - 2 ^ n < 2 ^ n := by rw [Nat.pow_succ] at hb; omega
        have c1 := List.all_eq_true.1 two_ck n (by simp; omega)
        have c2 := List.all_eq_true.1 c1 (b - 2 ^ n) (by simpa using hlt)
        have e : (b - 2 ^ n) ^^^ 2 ^ n = b := by
          have := beq_iff_eq.1 c2
          rw [this]; omega
        have hp : 2 ^ n < 256 := by
          have : 2 ^ n < 2 ^ 8 := Nat.pow_lt_pow_right (by omega) (by omega)
          simpa using this
        rw [← e]
        exact hx _ _ (by omega) hp (ih (by omega) _ hlt) (h1 n (by omega))
  intro b hb
  exact key 8 (Nat.le_refl _) b (by simpa using hb)
theorem mul_tw_ck : ((List.range 256).all fun a => (List.range 8).all fun i => mulN (tw a) (2 ^ i) == tw (mulN a (2 ^ i))) = true := by decide +kernel
theorem mul_zero_ck : ((List.range 256).all fun a => mulN a 0 == 0) = true := by decide +kernel
theorem mul_zero {b : Nat} (hb : b < 256) : mulN b 0 = 0 := by have := all_256 mul_zero_ck hb; simpa using this
theorem mulN_lt {a b : Nat} (hb : b < 256) : mulN a b < 256 := by
  unfold mulN
  exact accL_lt (bitsL_lt 8 a b hb)
theorem mul_tw {a b : Nat} (ha : a < 256) (hb : b < 256) : mulN (tw a) b = tw (mulN a b) := by
  refine byte_ind (P := fun b => mulN (tw a) b = tw (mulN a b)) ?_ ?_ ?_ b hb
  · rw [mul_zero (tw_lt ha), mul_zero ha]; rfl
  · intro i hi
    have := List.all_eq_true.1 (all_256 mul_tw_ck ha) i (by simpa using hi)
    simpa using this
  · intro b c hb hc h1 h2
    rw [mul_xor _ hb hc, mul_xor _ hb hc, h1, h2, tw_lin (mulN_lt hb) (mulN_lt hc)]
def logs : Nat → Nat → List Nat
  | 0, _ => []
  | n + 1, x => x :: logs n (tw x)
theorem logs_get : ∀ (n x i : Nat), i < n → (logs n x)[i]? = some (twn i x)
  | 0, _, _, h => by omega
  | n + 1, x, 0, _ => rfl
  | n + 1, x, i + 1, h => by
    rw [logs, List.getElem?_cons_succ, logs_get n (tw x) i (by omega)]
    congr 1
    clear h
    induction i with
    | zero => rfl
    | succ i ih => rw [twn, ih]; rfl
theorem logs_len : ∀ (n x : Nat), (logs n x).length = n
  | 0, _ => rfl
  | n + 1, x => by simp [logs, logs_len n]
theorem pw_twn (n : Nat) : pw n = twn n 1 := by
  induction n with
  | zero => rfl
  | succ n ih => rw [pw, twn, ih]
theorem pw_lt (n : Nat) : pw n < 256 := by
  induction n with
  | zero => decide
  | succ n ih => exact tw_lt ih
theorem twn_lt {b : Nat} (hb : b < 256) (n : Nat) : twn n b < 256 := by
  induction n with
  | zero => exact hb
  | succ n ih => exact tw_lt ih
theorem exp_all_ck : ((List.range 256).all fun a => a == 0 || (logs 255 1).contains a) = true := by decide +kernel
theorem exp_all {a : Nat} (ha : a < 256) (h0 : a ≠ 0) : ∃ n, n < 255 ∧ a = pw n := by
  have := all_256 exp_all_ck ha
  simp only [Bool.or_eq_true, beq_iff_eq, List.contains_iff_mem, List.mem_iff_getElem?] at this
  rcases this with h | ⟨i, hi⟩
  · exact absurd h h0
  · have hl := (List.getElem?_eq_some_iff.1 hi).1
    rw [logs_len] at hl
    rw [logs_get _ _ _ hl] at hi
    exact ⟨i, hl, by rw [pw_twn]; exact (Option.some.inj hi).symm⟩
theorem one_mul_ck : ((List.range 256).all fun b => mulN 1 b == b && mulN 0 b == 0) = true := by decide +kernel
theorem one_mul {b : Nat} (hb : b < 256) : mulN 1 b = b := by have := all_256 one_mul_ck hb; simp at this; exact this.1
theorem zero_mul {b : Nat} (hb : b < 256) : mulN 0 b = 0 := by have := all_256 one_mul_ck hb; simp at this; exact this.2
theorem pw_mul (n : Nat) {b : Nat} (hb : b < 256) : mulN (pw n) b = twn n b := by
  induction n with
  | zero => exact one_mul hb
  | succ n ih => rw [pw, mul_tw (pw_lt n) hb, ih]; rfl
theorem twn_add (n m b : Nat) : twn (n + m) b = twn n (twn m b) := by
  induction n with
  | zero => simp [twn]
  | succ n ih => rw [show n + 1 + m = (n + m) + 1 by omega]; simp only [twn]; rw [ih]
theorem mul_comm' {a b : Nat} (ha : a < 256) (hb : b < 256) : mulN a b = mulN b a := by
  by_cases h0 : a = 0
  · subst h0; rw [zero_mul hb, mul_zero hb]
  · by_cases h1 : b = 0
    · subst h1; rw [zero_mul ha, mul_zero ha]
    · obtain ⟨n, _, rfl⟩ := exp_all ha h0
      obtain ⟨m, _, rfl⟩ := exp_all hb h1
      rw [pw_mul n (pw_lt m), pw_mul m (pw_lt n), pw_twn n, pw_twn m, ← twn_add, ← twn_add, Nat.add_comm]
theorem mul_assoc' {a b c : Nat} (ha : a < 256) (hb : b < 256) (hc : c < 256) : mulN (mulN a b) c = mulN a (mulN b c) := by
  by_cases h0 : a = 0
  · subst h0; rw [zero_mul hb, zero_mul hc, zero_mul (mulN_lt hc)]
  · by_cases h1 : b = 0
    · subst h1; rw [mul_zero ha, zero_mul hc, mul_zero ha]
    · obtain ⟨n, _, rfl⟩ := exp_all ha h0
      obtain ⟨m, _, rfl⟩ := exp_all hb h1
      rw [pw_mul n (pw_lt m), pw_mul m hc, pw_mul n (twn_lt hc m), pw_twn m, ← twn_add, ← pw_twn, pw_mul _ hc, twn_add]
/-- powers -/
def pwN (a : Nat) : Nat → Nat
  | 0 => 1
  | n + 1 => mulN a (pwN a n)
theorem pwN_lt {a : Nat} (ha : a < 256) (n : Nat) : pwN a n < 256 := by
  induction n with
  | zero => show 1 < 256; omega
  | succ n ih => exact mulN_lt ih
theorem pwN_sq {a : Nat} (ha : a < 256) (n : Nat) : pwN (mulN a a) n = pwN a (2 * n) := by
  induction n with
  | zero => rfl
  | succ n ih =>
    rw [show 2 * (n + 1) = (2 * n + 1) + 1 by omega]
    simp only [pwN]
    rw [ih, mul_assoc' ha ha (pwN_lt ha _)]
theorem two_mul {b : Nat} (hb : b < 256) : mulN 2 b = tw b := by
  have := mul_tw (a := 1) (by omega) hb
  rw [one_mul hb] at this
  exact this
theorem pwN_two (n : Nat) : pwN 2 n = pw n := by
  induction n with
  | zero => rfl
  | succ n ih => rw [pwN, pw, ih, two_mul (pw_lt n)]
theorem pw_255 : pw 255 = 1 := by decide +kernel
theorem pwN_pw (n m : Nat) : pwN (pw n) m = pw (n * m) := by
  induction m with
  | zero => rfl
  | succ m ih => rw [pwN, ih, pw_mul n (pw_lt _), pw_twn (n * m), ← twn_add, ← pw_twn, Nat.mul_succ, Nat.add_comm]
theorem pw_mod (n : Nat) : pw (255 * n) = 1 := by
  induction n with
  | zero => rfl
  | succ n ih => rw [pw_twn, Nat.mul_succ, Nat.add_comm, twn_add, ← pw_twn, ih, ← pw_twn, pw_255]
def invN (a : Nat) : Nat := if a = 0 then 0 else pwN a 254
theorem mul_inv {a : Nat} (ha : a < 256) (h0 : a ≠ 0) : mulN a (invN a) = 1 := by
  obtain ⟨n, _, rfl⟩ := exp_all ha h0
  have e : invN (pw n) = pwN (pw n) 254 := by unfold invN; rw [if_neg h0]
  rw [e, pwN_pw, pw_mul n (pw_lt _), pw_twn (n * 254), ← twn_add, ← pw_twn, show n + n * 254 = 255 * n by omega, pw_mod]
theorem invN_lt {a : Nat} (ha : a < 256) : invN a < 256 := by
  unfold invN
  split
  · omega
  · exact pwN_lt ha _
theorem pw_ne_zero (n : Nat) : pw n ≠ 0 := by
  induction n with
  | zero => decide
  | succ n ih =>
    intro h
    have ha := pw_lt n
    have hi := mul_inv ha ih
    rw [pw] at h
    have h2 := mul_tw ha (invN_lt ha)
    rw [h, hi, zero_mul (invN_lt ha)] at h2
    exact absurd h2 (by decide)
theorem exp_inj_ck : ((List.range 16).all fun i => (List.range 16).all fun j => i == j || !(pw i == pw j)) = true := by decide +kernel
theorem exp_inj {i j : Nat} (hi : i < 16) (hj : j < 16) (h : i ≠ j) : pw i ≠ pw j := by
  have h1 := List.all_eq_true.1 exp_inj_ck i (by simpa using hi)
  have h2 := List.all_eq_true.1 h1 j (by simpa using hj)
  simpa [h] using h2
theorem xor_ne {a b : Nat} (h : a ≠ b) : a ^^^ b ≠ 0 := by
  intro e
  apply h
  have : a ^^^ b ^^^ b = 0 ^^^ b := by rw [e]
  simpa [Nat.xor_assoc] using this
end Go.Proofs.Ytodbmgafejclmaa.Fld
namespace Go.Proofs.Ytodbmgafejclmaa.Fld
open Go.Proofs.Ytodbmgafejclmaa.Base
set_option linter.unusedSimpArgs false
set_option linter.unusedVariables false
def Byt (x : Int) : Prop := 0 ≤ x ∧ x < 256
instance (x : Int) : Decidable (Byt x) := inferInstanceAs (Decidable (_ ∧ _))
def xorI (x y : Int) : Int := ((x.toNat ^^^ y.toNat : Nat) : Int)
def mulI (x y : Int) : Int := ((mulN x.toNat y.toNat : Nat) : Int)
def expI (i : Nat) : Int := ((pw i : Nat) : Int)
def invI (x : Int) : Int := ((invN x.toNat : Nat) : Int)
def at_ (xs : List Int) (k : Nat) : Int := xs.getD k 0
/-- the two sums at a byte -/
def pS : List (List Int) → Nat → Int
  | [], _ => 0
  | r :: L, k => xorI (at_ r k) (pS L k)
def qS : Nat → List (List Int) → Nat → Int
  | _, [], _ => 0
  | i, r :: L, k => xorI (mulI (expI i) (at_ r k)) (qS (i + 1) L k)
def sumP (L : List (List Int)) (n : Nat) : List Int := (List.range n).map (pS L)
def sumQ (L : List (List Int)) (n : Nat) : List Int := (List.range n).map (qS 0 L)
/-- a row added, times a number -/
def addR (tt x : List Int) (b : Int) : List Int := tt.mapIdx fun k a => if k < x.length then xorI a (mulI (at_ x k) b) else a
def row (L : List (List Int)) (i : Nat) : List Int := L.getD i []
/-- the rows that are not lost -/
def kept (l : List (List Int)) (lost : List Int) : List (List Int) := ((l.zipIdx).filter fun p => !(lost.contains (p.2 : Int))).map (·.1)
def alikeR : List (List Int) → Bool
  | [] => true
  | r :: L => L.all fun x => x.length == r.length
def lenR : List (List Int) → Nat
  | [] => 0
  | r :: _ => r.length
def mayB (l : List (List Int)) (lost : List Int) : Bool :=
  decide (4 ≤ l.length) && decide (l.length ≤ 16) && decide (lost.length ≤ 2) && lost.all (fun i => decide (0 ≤ i) && decide (i < l.length)) && decide lost.Nodup && alikeR (kept l lost)
def ownR (l : List (List Int)) (lost : List Int) (n : Nat) : List (List Int) := l.mapIdx fun i x => if lost.contains (i : Int) then List.replicate n 0 else x
def srt : List Int → List Int
  | [a, b] => if a ≤ b then [a, b] else [b, a]
  | l => l
def twoR (out : List (List Int)) (a b : Nat) (p q : List Int) : List (List Int) :=
  let x := expI a
  let y := expI b
  let e := invI (xorI x y)
  let ra := addR (addR (row out a) q e) p (mulI e y)
  let rb := addR (addR (row out b) p 1) ra 1
  (out.set a ra).set b rb
def dataR (out : List (List Int)) (gone : List Nat) (d : Nat) (p q : List Int) : List (List Int) :=
  match gone with
  | [] => out
  | [a] => if a ≥ d then out else out.set a (addR (row out a) p 1)
  | a :: b :: _ => if a ≥ d then out else if b < d then twoR out a b p q else if b = d then out.set a (addR (row out a) q (invI (expI a))) else out.set a (addR (row out a) p 1)
def parR (out : List (List Int)) (gone : List Nat) (d n : Nat) : List (List Int) :=
  gone.foldl (fun o i => if i ≥ d then o.set i (if i = d then sumP (o.take d) n else sumQ (o.take d) n) else o) out
def fixR (l : List (List Int)) (lost : List Int) : List (List Int) :=
  let n := lenR (kept l lost)
  let out := ownR l lost n
  let d := l.length - 2
  let gone := (srt lost).map Int.toNat
  let p := addR (sumP (out.take d) n) (row out d) 1
  let q := addR (sumQ (out.take d) n) (row out (d + 1)) 1
  parR (dataR out gone d p q) gone d n
def fixF (l : List (List Int)) (lost : List Int) : Option (List (List Int) × Bool) :=
  if (∀ r ∈ l, ∀ x ∈ r, Byt x) ∧ (∀ r ∈ l, r.length ≤ 1000000) ∧ lost.length ≤ 1000000 ∧ l.length ≤ 1000000 then (if mayB l lost then some (fixR l lost, true) else some ([], false)) else none
end Go.Proofs.Ytodbmgafejclmaa.Fld
namespace Go.Proofs.Ytodbmgafejclmaa.Pl
open Go.RowKit Go.Proofs.YtodbmgafejclmaaW.PrintWords Go.Proofs.YtodbmgafejclmaaW.PrintLast Go.Proofs.Ytodbmgafejclmaa.PRq Go.Proofs.Ytodbmgafejclmaa.Fld
open Go.Proofs.Ytodbmgafejclmaa.Base (mulN tw tw_lt bitsL accL bitsL_lt)
set_option linter.unusedSimpArgs false
set_option linter.unusedVariables false
theorem w64 {n : Int} (h1 : -9223372036854775808 ≤ n) (h2 : n ≤ 9223372036854775807) : wrap64 n = n := IntWalk.wrap64_in n ⟨h1, h2⟩
theorem ofInt_i64 (a : Nat) (ha : a < 4611686018427387904) : (BitVec.ofInt 64 (a : Int)).toNat = a := by
  rw [BitVec.ofInt_natCast, BitVec.toNat_ofNat]; exact Nat.mod_eq_of_lt (by omega)
theorem i64_and_nat (a b : Nat) (ha : a < 4611686018427387904) (hb : b < 4611686018427387904) : bits .and .i64 (a : Int) (b : Int) = ((a &&& b : Nat) : Int) := by
  have hx : a &&& b < 2 ^ 62 := Nat.and_lt_two_pow _ (by simpa using hb)
  show IntKind.i64.wrap ((BitVec.ofInt 64 (a : Int) &&& BitVec.ofInt 64 (b : Int)).toNat : Int) = _
  rw [BitVec.toNat_and, ofInt_i64 a ha, ofInt_i64 b hb, IntKind.wrap_i64]
  omega
theorem i64_xor_nat (a b : Nat) (ha : a < 4611686018427387904) (hb : b < 4611686018427387904) : bits .xor .i64 (a : Int) (b : Int) = ((a ^^^ b : Nat) : Int) := by
  have hx : a ^^^ b < 2 ^ 62 := Nat.xor_lt_two_pow (by simpa using ha) (by simpa using hb)
  show IntKind.i64.wrap ((BitVec.ofInt 64 (a : Int) ^^^ BitVec.ofInt 64 (b : Int)).toNat : Int) = _
  rw [BitVec.toNat_xor, ofInt_i64 a ha, ofInt_i64 b hb, IntKind.wrap_i64]
  omega
theorem i64_and_one (a : Nat) (ha : a < 4611686018427387904) : bits .and .i64 (a : Int) 1 = ((a % 2 : Nat) : Int) := by
  have := i64_and_nat a 1 ha (by omega)
  rw [Nat.and_one_is_mod] at this
  exact this
theorem byt_nat (a : Nat) (h : a < 256) : Byt (a : Int) := ⟨by omega, by omega⟩
theorem byt_xor {x y : Int} (hx : Byt x) (hy : Byt y) : Byt (xorI x y) := by
  have : x.toNat ^^^ y.toNat < 2 ^ 8 := Nat.xor_lt_two_pow (by have := hx.1; have := hx.2; omega) (by have := hy.1; have := hy.2; omega)
  exact byt_nat _ this
theorem byt_mul {x y : Int} (hy : Byt y) : Byt (mulI x y) := byt_nat _ (mulN_lt (by have := hy.1; have := hy.2; omega))
theorem byt_exp (i : Nat) : Byt (expI i) := byt_nat _ (pw_lt i)
theorem byt_zero : Byt 0 := ⟨by omega, by omega⟩
theorem byt_inv {x : Int} (h : Byt x) : Byt (invI x) := byt_nat _ (invN_lt (by have := h.1; have := h.2; omega))
theorem xor_u8 {x y : Int} (hx : Byt x) (hy : Byt y) : Go.bits .xor .u8 x y = xorI x y := u8_xor x y hx.1 hx.2 hy.1 hy.2
theorem toNat_lt {x : Int} (h : Byt x) : x.toNat < 256 := by have := h.1; have := h.2; omega
theorem xorI_comm (x y : Int) : xorI x y = xorI y x := by unfold xorI; rw [Nat.xor_comm]
theorem xorI_assoc (x y z : Int) : xorI (xorI x y) z = xorI x (xorI y z) := by unfold xorI; simp [Nat.xor_assoc]
theorem xorI_zero {x : Int} (h : Byt x) : xorI x 0 = x := by unfold xorI; have := h.1; simp; omega
theorem zero_xorI {x : Int} (h : Byt x) : xorI 0 x = x := by rw [xorI_comm, xorI_zero h]
theorem xorI_self (x : Int) : xorI x x = 0 := by unfold xorI; simp
theorem xorI_left_comm (x y z : Int) : xorI x (xorI y z) = xorI y (xorI x z) := by rw [← xorI_assoc, xorI_comm x y, xorI_assoc]
theorem xorI_swap (a b c d : Int) : xorI (xorI a b) (xorI c d) = xorI (xorI a c) (xorI b d) := by
  rw [xorI_assoc, xorI_assoc, xorI_left_comm b c d]
theorem mulI_xor {a b c : Int} (hb : Byt b) (hc : Byt c) : mulI a (xorI b c) = xorI (mulI a b) (mulI a c) := by
  unfold mulI xorI
  simp only [Int.toNat_natCast]
  rw [mul_xor _ (toNat_lt hb) (toNat_lt hc)]
theorem mulI_zero {a : Int} (h : Byt a) : mulI a 0 = 0 := by unfold mulI; simp [mul_zero (toNat_lt h)]
theorem mulI_comm {a b : Int} (ha : Byt a) (hb : Byt b) : mulI a b = mulI b a := by unfold mulI; rw [mul_comm' (toNat_lt ha) (toNat_lt hb)]
theorem mulI_assoc {a b c : Int} (ha : Byt a) (hb : Byt b) (hc : Byt c) : mulI (mulI a b) c = mulI a (mulI b c) := by
  unfold mulI; simp only [Int.toNat_natCast]; rw [mul_assoc' (toNat_lt ha) (toNat_lt hb) (toNat_lt hc)]
theorem mulI_one {a : Int} (ha : Byt a) : mulI a 1 = a := by
  rw [mulI_comm ha ⟨by omega, by omega⟩]
  unfold mulI
  have := one_mul (toNat_lt ha)
  simp only [show (1 : Int).toNat = 1 from rfl, this]
  have := ha.1; omega
theorem mul_f {x y : Int} (hx : Byt x) (hy : Byt y) : gf_Mul.f x y = some (mulI x y) := by
  unfold gf_Mul.f mulI
  rw [if_pos ⟨⟨hx.1, hx.2⟩, hy.1, hy.2⟩]
theorem pow_l0 (a o m : Nat) (ha : a < 256) (ho : o < 256) (hm : m < 4611686018427387904) : Ev (fun k => gf_Pow.l0 k (a : Int) (o : Int) (m : Int)) ((mulN o (pwN a m) : Nat) : Int) := by
  induction m using Nat.strongRecOn generalizing a o with
  | _ m ih =>
    have hmm : ∀ {x y : Nat}, x < 256 → y < 256 → gf_Mul.f (x : Int) (y : Int) = some ((mulN x y : Nat) : Int) := fun hx hy => mul_f (byt_nat _ hx) (byt_nat _ hy)
    rcases Nat.eq_zero_or_pos m with rfl | hpos
    · refine Ev.step (f := fun _ => some ((mulN o (pwN a 0) : Nat) : Int)) (fun k => ?_) (Ev.now _)
      rw [gf_Pow.l0, if_neg (by omega)]
      have : mulN o 1 = o := by rw [mul_comm' ho (by omega), one_mul ho]
      rw [pwN, this]
    · have hI := ih (m / 2) (by omega)
      have h2 : ((m : Int) / 2) = ((m / 2 : Nat) : Int) := by omega
      have hsq : mulN a a < 256 := mulN_lt ha
      rcases Nat.mod_two_eq_zero_or_one m with h0 | h1
      · refine Ev.step (f := fun k => gf_Pow.l0 k ((mulN a a : Nat) : Int) (o : Int) ((m / 2 : Nat) : Int)) (fun k => ?_) ?_
        · rw [gf_Pow.l0, if_pos (by omega), i64_and_one m hm, if_neg (by omega), hmm ha ha, h2]; rfl
        · have := hI (mulN a a) o hsq ho (by omega)
          rw [pwN_sq ha, show 2 * (m / 2) = m by omega] at this
          exact this
      · refine Ev.step (f := fun k => gf_Pow.l0 k ((mulN a a : Nat) : Int) ((mulN o a : Nat) : Int) ((m / 2 : Nat) : Int)) (fun k => ?_) ?_
        · rw [gf_Pow.l0, if_pos (by omega), i64_and_one m hm, if_pos (by omega), hmm ho ha, hmm ha ha, h2]; rfl
        · have := hI (mulN a a) (mulN o a) hsq (mulN_lt ha) (by omega)
          rw [pwN_sq ha, mul_assoc' ho ha (pwN_lt ha _)] at this
          have e : pwN a m = mulN a (pwN a (2 * (m / 2))) := by
            have : m = (2 * (m / 2)) + 1 := by omega
            conv => lhs; rw [this]
            rfl
          rw [e]
          exact this
theorem pow_ev (a : Nat) (n : Int) (m : Nat) (ha : a < 256) (h0 : a ≠ 0) (hm : Int.tmod (wrap64 ((Int.tmod n 255) + 255)) 255 = (m : Int)) (hm2 : m < 255) : Ev (fun k => gf_Pow.f k (a : Int) n) ((pwN a m : Nat) : Int) := by
  refine Ev.congr (f := fun k => gf_Pow.l0 k (a : Int) ((1 : Nat) : Int) (m : Int)) (fun k => ?_) ?_
  · rw [gf_Pow.f, if_neg (by omega), hm]; rfl
  · have := pow_l0 a 1 m ha (by omega) (by omega)
    rw [one_mul (pwN_lt ha m)] at this
    exact this
theorem exp_ev (i : Nat) (hi : i < 255) : Ev (fun k => gf_Exp.f k (i : Int)) (expI i) := by
  refine Ev.bind (g := fun k => gf_Pow.f k 2 (i : Int)) (f := fun _ t => some t) (a := expI i) ?_ (Ev.now _)
  have := pow_ev 2 (i : Int) i (by omega) (by omega) (by
    have e1 : Int.tmod (i : Int) 255 = (i : Int) := Int.tmod_eq_of_lt (by omega) (by omega)
    rw [e1, w64 (by omega) (by omega)]
    have : ((i : Int) + 255) = (i : Int) + 255 * 1 := by omega
    rw [Int.tmod_eq_emod_of_nonneg (by omega)]
    omega) hi
  rw [pwN_two] at this
  exact this
theorem inv_ev (a : Nat) (ha : a < 256) (h0 : a ≠ 0) : Ev (fun k => gf_Pow.f k (a : Int) (-1)) (invI (a : Int)) := by
  have := pow_ev a (-1) 254 ha h0 (by
    have e : Int.tmod (-1) 255 = -1 := by decide
    rw [e, w64 (by omega) (by omega)]
    decide) (by omega)
  unfold invI invN
  simpa [h0] using this
theorem rd_nat (xs : List Int) (j : Nat) : rd xs (j : Int) = at_ xs j := by unfold rd at_; simp
theorem rdL_nat (L : List (List Int)) (j : Nat) : rd_L1 L (j : Int) = row L j := by unfold rd_L1 row; simp
def Bytes (r : List Int) : Prop := ∀ x ∈ r, Byt x
theorem byt_at {r : List Int} (h : Bytes r) (j : Nat) : Byt (at_ r j) := by
  unfold at_
  rw [List.getD_eq_getElem?_getD]
  cases hj : r[j]? with
  | none => exact byt_zero
  | some x => exact h x (List.mem_of_getElem? hj)
theorem at_lt {r : List Int} {j : Nat} (h : j < r.length) : at_ r j = r[j] := by unfold at_; simp [h]
theorem row_lt {L : List (List Int)} {j : Nat} (h : j < L.length) : row L j = L[j] := by unfold row; simp [h]
def part (p r : List Int) (b : Option Int) (j : Nat) : List Int := p.mapIdx fun k a => if k < j then xorI a (match b with | none => at_ r k | some b => mulI b (at_ r k)) else a
def term (r : List Int) (b : Option Int) (k : Nat) : Int := match b with | none => at_ r k | some b => mulI b (at_ r k)
theorem part_len (p r : List Int) (b : Option Int) (j : Nat) : (part p r b j).length = p.length := by simp [part]
theorem part_zero (p r : List Int) (b : Option Int) : part p r b 0 = p := by
  unfold part
  apply List.ext_getElem
  · simp
  · intro i h1 h2; simp
theorem part_at (p r : List Int) (b : Option Int) (j k : Nat) (hk : k < p.length) : at_ (part p r b j) k = if k < j then xorI (at_ p k) (term r b k) else at_ p k := by
  rw [at_lt (by rw [part_len]; exact hk), at_lt hk]
  simp [part, term]
theorem part_set (p r : List Int) (b : Option Int) (j : Nat) (hj : j < p.length) : (part p r b j).set j (xorI (at_ p j) (term r b j)) = part p r b (j + 1) := by
  apply List.ext_getElem
  · simp [part]
  · intro i h1 h2
    simp only [part, List.length_mapIdx] at h2
    rw [List.getElem_set]
    split
    · rename_i e
      subst e
      simp [part, term, at_lt hj]
    · rename_i e
      simp only [part, List.getElem_mapIdx]
      by_cases hi : i < j
      · rw [if_pos hi, if_pos (by omega)]
      · rw [if_neg hi, if_neg (by omega)]
theorem pS_snoc (L : List (List Int)) (r : List Int) (k : Nat) (hL : ∀ r ∈ L, Bytes r) (hr : Bytes r) : pS (L ++ [r]) k = xorI (pS L k) (at_ r k) := by
  induction L with
  | nil => simp [pS]; rw [xorI_zero (byt_at hr k), zero_xorI (byt_at hr k)]
  | cons q L ih =>
    simp only [List.cons_append, pS]
    rw [ih (fun r h => hL r (by simp [h])), xorI_assoc]
theorem qS_snoc (s : Nat) (L : List (List Int)) (r : List Int) (k : Nat) (hL : ∀ r ∈ L, Bytes r) (hr : Bytes r) : qS s (L ++ [r]) k = xorI (qS s L k) (mulI (expI (s + L.length)) (at_ r k)) := by
  induction L generalizing s with
  | nil => simp [qS]; rw [xorI_zero (byt_mul (byt_at hr k)), zero_xorI (byt_mul (byt_at hr k))]
  | cons q L ih =>
    simp only [List.cons_append, qS]
    rw [ih (s + 1) (fun r h => hL r (by simp [h])), xorI_assoc]
    have e : s + 1 + L.length = s + (L.length + 1) := by omega
    rw [e]
    rfl
theorem byt_pS (L : List (List Int)) (k : Nat) (hL : ∀ r ∈ L, Bytes r) : Byt (pS L k) := by
  induction L with
  | nil => exact byt_zero
  | cons r L ih => exact byt_xor (byt_at (hL r (by simp)) k) (ih (fun r h => hL r (by simp [h])))
theorem byt_qS (s : Nat) (L : List (List Int)) (k : Nat) (hL : ∀ r ∈ L, Bytes r) : Byt (qS s L k) := by
  induction L generalizing s with
  | nil => exact byt_zero
  | cons r L ih => exact byt_xor (byt_mul (byt_at (hL r (by simp)) k)) (ih _ (fun r h => hL r (by simp [h])))
theorem sumP_len (L : List (List Int)) (n : Nat) : (sumP L n).length = n := by simp [sumP]
theorem sumQ_len (L : List (List Int)) (n : Nat) : (sumQ L n).length = n := by simp [sumQ]
theorem sumP_at (L : List (List Int)) {n k : Nat} (h : k < n) : at_ (sumP L n) k = pS L k := by rw [at_lt (by rw [sumP_len]; exact h)]; simp [sumP]
theorem sumQ_at (L : List (List Int)) {n k : Nat} (h : k < n) : at_ (sumQ L n) k = qS 0 L k := by rw [at_lt (by rw [sumQ_len]; exact h)]; simp [sumQ]
theorem bytes_sumP (L : List (List Int)) (n : Nat) (hL : ∀ r ∈ L, Bytes r) : Bytes (sumP L n) := by
  intro x hx
  simp only [sumP, List.mem_map] at hx
  obtain ⟨k, _, rfl⟩ := hx
  exact byt_pS L k hL
theorem bytes_sumQ (L : List (List Int)) (n : Nat) (hL : ∀ r ∈ L, Bytes r) : Bytes (sumQ L n) := by
  intro x hx
  simp only [sumQ, List.mem_map] at hx
  obtain ⟨k, _, rfl⟩ := hx
  exact byt_qS 0 L k hL
theorem ext_at {a b : List Int} (h1 : a.length = b.length) (h : ∀ k, k < a.length → at_ a k = at_ b k) : a = b := by
  apply List.ext_getElem h1
  intro k h2 h3
  rw [← at_lt h2, ← at_lt h3, h k h2]
theorem sums_l1 (L : List (List Int)) (i : Nat) (r : List Int) (b : Int) (p q : List Int) (hp : p.length = r.length) (hq : q.length = r.length) (hlen : r.length ≤ 281474976710656) (hb : Byt b) (bp : Bytes p) (bq : Bytes q) (br : Bytes r) (R : List Int × List Int)
    (h : Ev (fun k => rs_sums.l0 k (part p r none r.length) (part q r (some b) r.length) L (L.length : Int) ((i : Int) + 1)) R) (hi : i < 1000000) :
    ∀ d j, r.length - j = d → j ≤ r.length → Ev (fun k => rs_sums.l1 k (part p r none j) (part q r (some b) j) b L (L.length : Int) (i : Int) r (r.length : Int) (j : Int)) R
  | 0, j, hd, hj => by
    obtain rfl : j = r.length := by omega
    refine Ev.step (f := fun k => rs_sums.l0 k (part p r none r.length) (part q r (some b) r.length) L (L.length : Int) ((i : Int) + 1)) (fun k => ?_) h
    rw [rs_sums.l1, if_neg (by omega), w64 (by omega) (by omega)]
  | d + 1, j, hd, hj => by
    have hjr : j < r.length := by omega
    refine Ev.step (f := fun k => rs_sums.l1 k (part p r none (j + 1)) (part q r (some b) (j + 1)) b L (L.length : Int) (i : Int) r (r.length : Int) ((j + 1 : Nat) : Int)) (fun k => ?_) (sums_l1 L i r b p q hp hq hlen hb bp bq br R h hi d (j + 1) (by omega) (by omega))
    have e1 : at_ (part p r none j) j = at_ p j := by rw [part_at _ _ _ _ _ (by omega), if_neg (by omega)]
    have e2 : at_ (part q r (some b) j) j = at_ q j := by rw [part_at _ _ _ _ _ (by omega), if_neg (by omega)]
    have e3 := part_set p r none j (by omega)
    have e4 := part_set q r (some b) j (by omega)
    have t3 : term r none j = at_ r j := rfl
    have t4 : term r (some b) j = mulI b (at_ r j) := rfl
    rw [t3] at e3
    rw [t4] at e4
    rw [rs_sums.l1, if_pos (by omega), if_pos (by omega), if_pos (by omega), if_pos (by rw [part_len]; omega), if_pos (by rw [part_len]; omega), w64 (by omega) (by omega)]
    simp only [rd_nat, e1, e2, Int.toNat_natCast]
    rw [mul_f hb (byt_at br j)]
    simp only [Option.bind_some]
    rw [xor_u8 (byt_at bp j) (byt_at br j), xor_u8 (byt_at bq j) (byt_mul (byt_at br j)), e3, e4]
    rfl
theorem sums_l0 (L : List (List Int)) (n : Nat) (hn : ∀ r ∈ L, r.length = n) (hL : ∀ r ∈ L, Bytes r) (h254 : L.length ≤ 254) (hn2 : n ≤ 281474976710656) :
    ∀ d i, L.length - i = d → i ≤ L.length → Ev (fun k => rs_sums.l0 k (sumP (L.take i) n) (sumQ (L.take i) n) L (L.length : Int) (i : Int)) (sumP L n, sumQ L n)
  | 0, i, hd, hi => by
    obtain rfl : i = L.length := by omega
    refine Ev.step (f := fun _ => some (sumP L n, sumQ L n)) (fun k => ?_) (Ev.now _)
    rw [rs_sums.l0, if_neg (by omega), List.take_length]
  | d + 1, i, hd, hi => by
    have hiL : i < L.length := by omega
    have hm : L[i] ∈ L := List.getElem_mem hiL
    have htk : ∀ r ∈ L.take i, Bytes r := fun r hr => hL r (List.mem_of_mem_take hr)
    refine Ev.step (f := fun k => (gf_Exp.f k (i : Int)).bind fun t => rs_sums.l1 k (sumP (L.take i) n) (sumQ (L.take i) n) t L (L.length : Int) (i : Int) L[i] (L[i].length : Int) 0) (fun k => ?_) ?_
    · rw [rs_sums.l0, if_pos (by omega), if_pos (by omega), if_pos (by omega), rdL_nat, row_lt hiL]
    · refine Ev.bind (exp_ev i (by omega)) ?_
      have h1 := sums_l1 L i L[i] (expI i) (sumP (L.take i) n) (sumQ (L.take i) n) (by rw [sumP_len, hn _ hm]) (by rw [sumQ_len, hn _ hm]) (by rw [hn _ hm]; exact hn2) (byt_exp i) (bytes_sumP _ _ htk) (bytes_sumQ _ _ htk) (hL _ hm) (sumP L n, sumQ L n) ?_ (by omega) L[i].length 0 (by omega) (by omega)
      · simpa [part_zero] using h1
      · have := sums_l0 L n hn hL h254 hn2 d (i + 1) (by omega) (by omega)
        have e1 : part (sumP (L.take i) n) L[i] none L[i].length = sumP (L.take (i + 1)) n := by
          refine ext_at (by rw [part_len, sumP_len, sumP_len]) (fun k hk => ?_)
          rw [part_len, sumP_len] at hk
          rw [part_at _ _ _ _ _ (by rw [sumP_len]; exact hk), if_pos (by rw [hn _ hm]; exact hk), sumP_at _ hk, sumP_at _ hk, List.take_succ_eq_append_getElem hiL, pS_snoc _ _ _ htk (hL _ hm)]
          rfl
        have e2 : part (sumQ (L.take i) n) L[i] (some (expI i)) L[i].length = sumQ (L.take (i + 1)) n := by
          refine ext_at (by rw [part_len, sumQ_len, sumQ_len]) (fun k hk => ?_)
          rw [part_len, sumQ_len] at hk
          rw [part_at _ _ _ _ _ (by rw [sumQ_len]; exact hk), if_pos (by rw [hn _ hm]; exact hk), sumQ_at _ hk, sumQ_at _ hk, List.take_succ_eq_append_getElem hiL, qS_snoc _ _ _ _ htk (hL _ hm)]
          have : (L.take i).length = i := by simp; omega
          rw [this, Nat.zero_add]
          rfl
        rw [e1, e2]
        simpa using this
theorem rep_zero (n : Nat) : List.replicate n (0 : Int) = sumP [] n := by
  refine ext_at (by simp [sumP]) (fun k hk => ?_)
  simp only [List.length_replicate] at hk
  rw [sumP_at _ hk, at_lt (by simpa using hk)]
  simp [pS]
theorem rep_zero' (n : Nat) : List.replicate n (0 : Int) = sumQ [] n := by
  refine ext_at (by simp [sumQ]) (fun k hk => ?_)
  simp only [List.length_replicate] at hk
  rw [sumQ_at _ hk, at_lt (by simpa using hk)]
  simp [qS]
theorem sums_ev (L : List (List Int)) (n : Nat) (hn : ∀ r ∈ L, r.length = n) (hL : ∀ r ∈ L, Bytes r) (h254 : L.length ≤ 254) (hn2 : n ≤ 281474976710656) : Ev (fun k => rs_sums.f k L (n : Int)) (sumP L n, sumQ L n) := by
  refine Ev.congr (f := fun k => rs_sums.l0 k (sumP (L.take 0) n) (sumQ (L.take 0) n) L (L.length : Int) ((0 : Nat) : Int)) (fun k => ?_) (sums_l0 L n hn hL h254 hn2 L.length 0 (by omega) (by omega))
  rw [rs_sums.f, if_pos (by omega), if_pos (by simpa using hn2)]
  simp only [Int.toNat_natCast, List.take_zero]
  rw [← rep_zero, ← rep_zero']
  rfl
theorem alike_from (L : List (List Int)) (n : Int) (hL : L.length ≤ 1000000) : ∀ d i, L.length - i = d → 1 ≤ i → i ≤ L.length → Ev (fun k => rs_alike.l0 k n L (L.length : Int) (i : Int)) (if (L.drop i).all (fun x => decide ((x.length : Int) = n)) then (n, true) else (0, false))
  | 0, i, hd, h1, hi => by
    obtain rfl : i = L.length := by omega
    refine Ev.step (f := fun _ => some (n, true)) (fun k => ?_) ?_
    · rw [rs_alike.l0, if_neg (by omega)]
    · simp; exact Ev.now _
  | d + 1, i, hd, h1, hi => by
    have hiL : i < L.length := by omega
    have hdr : L.drop i = L[i] :: L.drop (i + 1) := List.drop_eq_getElem_cons hiL
    by_cases h : (L[i].length : Int) = n
    · refine Ev.step (f := fun k => rs_alike.l0 k n L (L.length : Int) ((i + 1 : Nat) : Int)) (fun k => ?_) ?_
      · rw [rs_alike.l0, if_pos (by omega), if_pos (by omega), if_pos (by omega), if_pos (by omega), rdL_nat, row_lt hiL, if_pos h, w64 (by omega) (by omega), h]; rfl
      · have := alike_from L n hL d (i + 1) (by omega) (by omega) (by omega)
        have e : (L.drop i).all (fun x => decide ((x.length : Int) = n)) = (L.drop (i + 1)).all (fun x => decide ((x.length : Int) = n)) := by rw [hdr, List.all_cons, decide_eq_true h, Bool.true_and]
        rw [e]
        exact this
    · refine Ev.step (f := fun _ => some (0, false)) (fun k => ?_) ?_
      · rw [rs_alike.l0, if_pos (by omega), if_pos (by omega), if_pos (by omega), if_pos (by omega), rdL_nat, row_lt hiL, if_neg h]
      · have e : (L.drop i).all (fun x => decide ((x.length : Int) = n)) = false := by rw [hdr, List.all_cons, decide_eq_false h, Bool.false_and]
        rw [e]
        exact Ev.now _
theorem alike_ev (L : List (List Int)) (hL : L.length ≤ 1000000) : Ev (fun k => rs_alike.f k L) (if alikeR L then ((lenR L : Nat), true) else ((0 : Int), false)) := by
  unfold rs_alike.f
  cases L with
  | nil =>
    refine Ev.step (f := fun _ => some (0, true)) (fun k => ?_) ?_
    · rw [rs_alike.l0, if_neg (by simp)]
    · simp [alikeR, lenR]; exact Ev.now _
  | cons r L =>
    have h := alike_from (r :: L) (r.length : Int) hL ((r :: L).length - 1) 1 rfl (by omega) (by simp)
    refine Ev.step (f := fun k => rs_alike.l0 k (r.length : Int) (r :: L) ((r :: L).length : Int) ((1 : Nat) : Int)) (fun k => ?_) ?_
    · have hpos : (0 : Int) < ((r :: L).length : Int) := by rw [List.length_cons]; omega
      rw [rs_alike.l0, if_pos hpos, if_pos (by omega), if_pos hpos, if_neg (by omega)]
      have : rd_L1 (r :: L) 0 = r := by simp [rd_L1]
      rw [this, w64 (by omega) (by omega)]
      rfl
    · have e : (alikeR (r :: L)) = ((r :: L).drop 1).all (fun x => decide ((x.length : Int) = (r.length : Int))) := by
        simp only [alikeR, List.all_cons, List.drop_succ_cons, List.drop_zero, beq_self_eq_true, Bool.true_and]
        congr 1
        funext x
        rw [Bool.eq_iff_iff, beq_iff_eq, decide_eq_true_iff]
        omega
      rw [e]
      exact h
theorem alikeR_of {L : List (List Int)} {n : Nat} (h : ∀ r ∈ L, r.length = n) : alikeR L = true := by
  cases L with
  | nil => rfl
  | cons r L =>
    simp only [alikeR, List.all_eq_true]
    intro x hx
    rw [h x (by simp [hx]), h r (by simp)]
    simp
theorem lenR_of {L : List (List Int)} {n : Nat} (h : ∀ r ∈ L, r.length = n) (h0 : L ≠ []) : lenR L = n := by
  cases L with
  | nil => exact absurd rfl h0
  | cons r L => exact h r (by simp)
theorem parity_ev (L : List (List Int)) (n : Nat) (hn : ∀ r ∈ L, r.length = n) (hL : ∀ r ∈ L, Bytes r) (h2 : 2 ≤ L.length) (h14 : L.length ≤ 14) (hn2 : n ≤ 281474976710656) : Ev (fun k => rs_Parity.f k L) (sumP L n, sumQ L n) := by
  have ha := alike_ev L (by omega)
  rw [if_pos (alikeR_of hn), lenR_of hn (by intro h; rw [h] at h2; simp at h2)] at ha
  refine Ev.bind ha ?_
  simp only
  refine Ev.congr (f := fun k => (rs_sums.f k L (n : Int)).bind fun bt => some (bt.1, bt.2)) (fun k => ?_) (Ev.bind (sums_ev L n hn hL (by omega) hn2) (Ev.now _))
  simp only [if_true]
  rw [if_neg (by omega), if_neg (by omega)]
def stp (o : Nat) (p : Bool × Nat) : Nat := if p.1 then o ^^^ p.2 else o
theorem dbl_ck : ((List.range 256).all fun x => decide (x < 128) || ((x * 2) ^^^ 285 == tw x)) = true := by decide +kernel
theorem dbl {x : Nat} (hx : x < 256) (h : 128 ≤ x) : (x * 2) ^^^ 285 = tw x := by
  have := List.all_eq_true.1 dbl_ck x (by simpa using hx)
  simp at this
  omega
theorem refmul_l0 : ∀ (n x y p : Nat), x < 256 → y < 2 ^ n → y < 256 → p < 256 → Ev (fun k => ramekinref2_Mul.l0 k (x : Int) (y : Int) (p : Int)) (((bitsL n y x).foldl stp p : Nat) : Int)
  | n, x, y, p, hx, hy, hy2, hp => by
    rcases Nat.eq_zero_or_pos y with rfl | hpos
    · refine Ev.step (f := fun _ => some (p : Int)) (fun k => ?_) ?_
      · rw [ramekinref2_Mul.l0, if_neg (by omega)]
        congr 1; omega
      · have : bitsL n 0 x = [] := by cases n <;> simp [bitsL]
        rw [this]; exact Ev.now _
    · obtain ⟨m, rfl⟩ : ∃ m, n = m + 1 := ⟨n - 1, by cases n with | zero => simp at hy; omega | succ k => simp⟩
      have hbl : bitsL (m + 1) y x = (y % 2 == 1, x) :: bitsL m (y / 2) (tw x) := by rw [bitsL, if_neg (by omega)]
      have h2 : ((y : Int) / 2) = ((y / 2 : Nat) : Int) := by omega
      have hx2 : wrap64 ((x : Int) * 2) = ((x * 2 : Nat) : Int) := by rw [w64 (by omega) (by omega)]; simp
      have hpx : p ^^^ x < 256 := Nat.xor_lt_two_pow (n := 8) hp hx
      rw [Nat.pow_succ] at hy
      have step : ∀ k q, (if ((x * 2 : Nat) : Int) > 255 then ramekinref2_Mul.l0 k (Go.bits .xor .i64 ((x * 2 : Nat) : Int) 285) ((y / 2 : Nat) : Int) q else ramekinref2_Mul.l0 k ((x * 2 : Nat) : Int) ((y / 2 : Nat) : Int) q) = ramekinref2_Mul.l0 k ((tw x : Nat) : Int) ((y / 2 : Nat) : Int) q := by
        intro k q
        by_cases h : 128 ≤ x
        · rw [if_pos (by omega)]
          have := i64_xor_nat (x * 2) 285 (by omega) (by omega)
          rw [dbl hx h] at this
          rw [← this]; rfl
        · rw [if_neg (by omega)]
          have : tw x = x * 2 := by unfold tw; rw [if_neg h]
          rw [this]
      rcases Nat.mod_two_eq_zero_or_one y with h0 | h1
      · refine Ev.step (f := fun k => ramekinref2_Mul.l0 k ((tw x : Nat) : Int) ((y / 2 : Nat) : Int) (p : Int)) (fun k => ?_) ?_
        · rw [ramekinref2_Mul.l0, if_pos (by omega), i64_and_one y (by omega), if_neg (by omega), hx2, h2, step]
        · have := refmul_l0 m (tw x) (y / 2) p (tw_lt hx) (by omega) (by omega) hp
          rw [hbl]
          simpa [stp, h0] using this
      · refine Ev.step (f := fun k => ramekinref2_Mul.l0 k ((tw x : Nat) : Int) ((y / 2 : Nat) : Int) ((p ^^^ x : Nat) : Int)) (fun k => ?_) ?_
        · rw [ramekinref2_Mul.l0, if_pos (by omega), i64_and_one y (by omega), if_pos (by omega), hx2, h2, i64_xor_nat p x (by omega) (by omega), step]
        · have := refmul_l0 m (tw x) (y / 2) (p ^^^ x) (tw_lt hx) (by omega) (by omega) hpx
          rw [hbl]
          simpa [stp, h1] using this
theorem refmul_ev {x y : Int} (hx : Byt x) (hy : Byt y) : Ev (fun k => ramekinref2_Mul.f k x y) (mulI x y) := by
  obtain ⟨a, rfl⟩ := Int.eq_ofNat_of_zero_le hx.1
  obtain ⟨b, rfl⟩ := Int.eq_ofNat_of_zero_le hy.1
  have ha : a < 256 := by have := hx.2; omega
  have hb : b < 256 := by have := hy.2; omega
  have := refmul_l0 8 a b 0 ha (by simpa using hb) hb (by omega)
  have e : (bitsL 8 b a).foldl stp 0 = mulN b a := rfl
  rw [e, mul_comm' hb ha] at this
  unfold ramekinref2_Mul.f
  rw [w64 (by omega) (by omega), w64 (by omega) (by omega)]
  exact this
theorem refexp_l0 (n : Nat) (hn : n < 255) : ∀ d j, n - j = d → j ≤ n → Ev (fun k => ramekinref2_Exp.l0 k (n : Int) (expI j) (j : Int)) (expI n)
  | 0, j, hd, hj => by
    obtain rfl : j = n := by omega
    refine Ev.step (f := fun _ => some (expI j)) (fun k => ?_) (Ev.now _)
    rw [ramekinref2_Exp.l0, if_neg (by omega)]
  | d + 1, j, hd, hj => by
    refine Ev.step (f := fun k => (ramekinref2_Mul.f k (expI j) 2).bind fun t => ramekinref2_Exp.l0 k (n : Int) t ((j + 1 : Nat) : Int)) (fun k => ?_) ?_
    · rw [ramekinref2_Exp.l0, if_pos (by omega), w64 (by omega) (by omega)]; rfl
    · refine Ev.bind (refmul_ev (byt_exp j) ⟨by omega, by omega⟩) ?_
      have e : mulI (expI j) 2 = expI (j + 1) := by
        rw [mulI_comm (byt_exp j) ⟨by omega, by omega⟩]
        unfold mulI expI
        simp only [Int.toNat_natCast]
        have := two_mul (pw_lt j)
        rw [show (2 : Int).toNat = 2 from rfl, this]
        rfl
      rw [e]
      exact refexp_l0 n hn d (j + 1) (by omega) (by omega)
theorem refexp_ev (n : Nat) (hn : n < 255) : Ev (fun k => ramekinref2_Exp.f k (n : Int)) (expI n) := by
  have e1 : Int.tmod (n : Int) 255 = (n : Int) := Int.tmod_eq_of_lt (by omega) (by omega)
  refine Ev.congr (f := fun k => ramekinref2_Exp.j0 k (n : Int)) (fun k => ?_) ?_
  · rw [ramekinref2_Exp.f, e1, if_neg (by omega)]
  · refine Ev.step (f := fun k => ramekinref2_Exp.l0 k (n : Int) (expI 0) ((0 : Nat) : Int)) (fun k => ?_) (refexp_l0 n hn n 0 (by omega) (by omega))
    rw [ramekinref2_Exp.j0]; rfl
end Go.Proofs.Ytodbmgafejclmaa.Pl
namespace Go.Proofs.Ytodbmgafejclmaa.Ot
open Go.RowKit Go.Proofs.YtodbmgafejclmaaW.PrintWords
open Go.Proofs.Ytodbmgafejclmaa.PRq Go.Proofs.Ytodbmgafejclmaa.Fld Go.Proofs.Ytodbmgafejclmaa.Pl
set_option linter.unusedSimpArgs false
set_option linter.unusedVariables false
def partA (tt x : List Int) (b : Int) (j : Nat) : List Int := tt.mapIdx fun k a => if k < j then xorI a (mulI (at_ x k) b) else a
theorem partA_len (tt x : List Int) (b : Int) (j : Nat) : (partA tt x b j).length = tt.length := by simp [partA]
theorem partA_zero (tt x : List Int) (b : Int) : partA tt x b 0 = tt := by
  unfold partA
  apply List.ext_getElem
  · simp
  · intro i h1 h2; simp
theorem partA_at (tt x : List Int) (b : Int) (j : Nat) (hj : j < tt.length) : at_ (partA tt x b j) j = at_ tt j := by
  rw [at_lt (by rw [partA_len]; exact hj), at_lt hj]
  simp [partA]
theorem partA_set (tt x : List Int) (b : Int) (j : Nat) (hj : j < tt.length) : (partA tt x b j).set j (xorI (at_ tt j) (mulI (at_ x j) b)) = partA tt x b (j + 1) := by
  apply List.ext_getElem
  · simp [partA]
  · intro i h1 h2
    simp only [partA, List.length_mapIdx] at h2
    rw [List.getElem_set]
    split
    · rename_i e
      subst e
      simp [partA, at_lt hj]
    · rename_i e
      simp only [partA, List.getElem_mapIdx]
      by_cases hi : i < j
      · rw [if_pos hi, if_pos (by omega)]
      · rw [if_neg hi, if_neg (by omega)]
theorem addR_len (tt x : List Int) (b : Int) : (addR tt x b).length = tt.length := by simp [addR]
theorem bytes_addR {tt x : List Int} {b : Int} (h1 : Bytes tt) (h2 : Bytes x) (hb : Byt b) : Bytes (addR tt x b) := by
  intro y hy
  obtain ⟨i, hi, rfl⟩ := List.getElem_of_mem hy
  rw [addR_len] at hi
  simp only [addR, List.getElem_mapIdx]
  split
  · exact byt_xor (h1 _ (List.getElem_mem hi)) (byt_mul hb)
  · exact h1 _ (List.getElem_mem hi)
theorem add_l0 (tt x : List Int) (b : Int) (hl : x.length ≤ tt.length) (hm : x.length ≤ 1000000) (h1 : Bytes tt) (h2 : Bytes x) (hb : Byt b) : ∀ d j, x.length - j = d → j ≤ x.length → Ev (fun k => rs_add.l0 k (partA tt x b j) b x (x.length : Int) (j : Int)) (addR tt x b)
  | 0, j, hd, hj => by
    obtain rfl : j = x.length := by omega
    refine Ev.step (f := fun _ => some (addR tt x b)) (fun k => ?_) (Ev.now _)
    rw [rs_add.l0, if_neg (by omega)]
    rfl
  | d + 1, j, hd, hj => by
    refine Ev.step (f := fun k => rs_add.l0 k (partA tt x b (j + 1)) b x (x.length : Int) ((j + 1 : Nat) : Int)) (fun k => ?_) (add_l0 tt x b hl hm h1 h2 hb d (j + 1) (by omega) (by omega))
    rw [rs_add.l0, if_pos (by omega), if_pos (by omega), if_pos (by omega), if_pos (by rw [partA_len]; omega), w64 (by omega) (by omega), rd_nat, rd_nat, mul_f (byt_at h2 j) hb]
    simp only [Option.bind_some, Int.toNat_natCast]
    rw [partA_at _ _ _ _ (by omega), xor_u8 (byt_at h1 j) (byt_mul hb), partA_set _ _ _ _ (by omega)]
    rfl
theorem add_ev (tt x : List Int) (b : Int) (hl : x.length ≤ tt.length) (hm : x.length ≤ 1000000) (h1 : Bytes tt) (h2 : Bytes x) (hb : Byt b) : Ev (fun k => rs_add.f k tt x b) (addR tt x b) := by
  have := add_l0 tt x b hl hm h1 h2 hb x.length 0 (by omega) (by omega)
  rw [partA_zero] at this
  exact this
def BR (w : World) (base : Nat) (v : Value) (r : List Int) : Prop := w.ownsRow base 5 1 v r.length (encs (Value.int .u8) r)
theorem BR.R {w : World} {base : Nat} {v : Value} {r : List Int} {ok : Nat → Prop} (h : BR w base v r) (hok : ∀ k, v.ownBlock = some k → ok k) : Kd.R (Kd.int .u8) 5 w base ok v r := Kd.R_of_own h hok
theorem BR.of {w : World} {base : Nat} {v : Value} {r : List Int} {ok : Nat → Prop} (h : Kd.R (Kd.int .u8) 5 w base ok v r) : BR w base v r := Kd.own_of_R h
theorem BR.slice {w : World} {base : Nat} {v : Value} {r : List Int} (h : BR w base v r) : ∃ A c, v = .slice A r.length c ∧ r.length ≤ c ∧ Kd.C (Kd.int .u8) w A r.length r := Kd.R_reads (h.R (ok := fun _ => True) (fun _ _ => trivial))
theorem BR.move {w w1 : World} {base : Nat} {v : Value} {r : List Int} (h : BR w base v r) (hm : ∀ k, v.ownBlock = some k → w1.heap[k]? = w.heap[k]?) : BR w1 base v r := own_move h hm
theorem BR.below {w w1 : World} {base : Nat} {v : Value} {r : List Int} (h : BR w base v r) (hb : Below w.heap.size w w1) : BR w1 base v r := pw_own_below h hb
theorem BR.kept {w w1 : World} {base : Nat} {v u : Value} {r : List Int} (h : BR w base v r) (hk : Kept w w1 (fun k => some k = u.ownBlock)) (hne : ∀ k, v.ownBlock = some k → u.ownBlock ≠ some k) : BR w1 base v r :=
  h.move (fun k e => hk.2 k (own_lt h k e) (fun h2 => hne k e h2.symm))
theorem BR.C_kept {w w1 : World} {base c n : Nat} {A : Option Addr} {u : Value} {r : List Int} (h : BR w base (.slice A n c) r) (hk : Kept w w1 (fun k => some k = u.ownBlock)) (hne : ∀ k, (Value.slice A n c).ownBlock = some k → u.ownBlock ≠ some k) : Kd.C (Kd.int .u8) w1 A r.length r := by
  obtain ⟨A', c', e, _, h2⟩ := (h.kept hk hne).slice
  cases e
  exact h2
/-- rs.add -/
theorem add_any {w0 w : World} {v g : Value} {tt x : List Int} {b : Int} (hB : Below w0.heap.size w0 w) (h : BR w w0.heap.size v tt) (hg : BR w w0.heap.size g x) (hne : ∀ k, g.ownBlock = some k → v.ownBlock ≠ some k)
    (hl : x.length ≤ tt.length) (hm : x.length ≤ 1000000) (h1 : Bytes tt) (h2 : Bytes x) (hb : Byt b) :
    Calls Try.prog 54 #[v, g, .int .u8 b] w fun e w' => e = .returned (.tuple #[]) ∧ BR w' w0.heap.size v (addR tt x b) ∧ Below w0.heap.size w0 w' ∧ Kept w w' (fun k => some k = v.ownBlock) := by
  obtain ⟨k, hk⟩ := (add_ev tt x b hl hm h1 h2 hb).rounds
  obtain ⟨A, c, rfl, hc, _⟩ := hg.slice
  refine (rs_add.calls k (fun k => some k = v.ownBlock) v tt A c x b _ w0 w hB (h.R (fun k e => e.symm)) (fun W hW => hg.C_kept hW hne) hc hk).mono ?_
  rintro e w' ⟨rfl, g1, g2, g3⟩
  exact ⟨rfl, BR.of g1, g2, g3⟩
structure Out (w : World) (base G : Nat) (hs : List Value) (rows : List (List Int)) : Prop where
  head : w.ownsRow base 24 1 (.slice (some ⟨G, 0, none⟩) rows.length rows.length) rows.length hs
  row : ∀ (i : Nat) (h : Value) (r : List Int), hs[i]? = some h → rows[i]? = some r → BR w base h r
  apart : ∀ (i j : Nat) (h g : Value) (k : Nat), i ≠ j → hs[i]? = some h → hs[j]? = some g → h.ownBlock = some k → g.ownBlock ≠ some k
  max : rows.length ≤ 1000000
namespace Out
variable {w w1 : World} {base G i : Nat} {hs : List Value} {rows : List (List Int)} {h v : Value} {r : List Int}
theorem len (O : Out w base G hs rows) : hs.length = rows.length := by have := O.head.1; omega
theorem lt (O : Out w base G hs rows) : G < w.heap.size := own_lt O.head G rfl
theorem baseG (O : Out w base G hs rows) : base ≤ G := own_base O.head G rfl
theorem below (O : Out w base G hs rows) (hb : Below w.heap.size w w1) : Out w1 base G hs rows := ⟨pw_own_below O.head hb, fun i h r h1 h2 => (O.row i h r h1 h2).below hb, O.apart, O.max⟩
theorem at_ (O : Out w base G hs rows) (hi : i < rows.length) : ∃ A c, hs[i]? = some (.slice A (Fld.row rows i).length c) ∧ w.cell? ⟨G, i, none⟩ = some (.slice A (Fld.row rows i).length c) ∧ w.frozen? ⟨G, i, none⟩ = false ∧ BR w base (.slice A (Fld.row rows i).length c) (Fld.row rows i) := by
  have hl := O.len
  have hi2 : i < hs.length := by omega
  have hr := O.row i hs[i] rows[i] (List.getElem?_eq_getElem hi2) (List.getElem?_eq_getElem hi)
  obtain ⟨A, c, e, _⟩ := hr.slice
  rw [row_lt hi]
  refine ⟨A, c, by rw [List.getElem?_eq_getElem hi2, e], ?_, ?_, by rw [← e]; exact hr⟩
  · rw [O.head.cellAt i (by omega), List.getElem?_eq_getElem hi2, e]
  · rcases O.head.2 with ⟨h', _⟩ | ⟨g', cap', cur, h', _, hh, _⟩
    · cases h'
    · cases h'
      simp [World.frozen?, hh]
theorem get (O : Out w base G hs rows) (hi : i < rows.length) : ∃ h, hs[i]? = some h := ⟨hs[i]'(by have := O.len; omega), List.getElem?_eq_getElem _⟩
theorem cell (O : Out w base G hs rows) (hi : hs[i]? = some h) : w.cell? ⟨G, i, none⟩ = some h := by
  have hl := O.len
  have h1 := (List.getElem?_eq_some_iff.1 hi).1
  rw [O.head.cellAt i (by omega), hi]
theorem frozen (O : Out w base G hs rows) (i : Nat) : w.frozen? ⟨G, i, none⟩ = false := by
  rcases O.head.2 with ⟨h', _⟩ | ⟨g', cap', cur, h', _, hh, _⟩
  · cases h'
  · cases h'
    simp [World.frozen?, hh]
theorem R (O : Out w base G hs rows) : Kd.R (Kd.slice 5 (Kd.int .u8)) 24 w base (fun k => base ≤ k) (.slice (some ⟨G, 0, none⟩) rows.length rows.length) rows := by
  have hl := O.len
  refine ⟨fun k hk => own_base O.head k hk, hs, O.head, by rw [hl]; show _ = _ * 1; omega, fun j p hj => ?_⟩
  have hjl : j < rows.length := (List.getElem?_eq_some_iff.1 hj).1
  have hj2 : j < hs.length := by omega
  refine ⟨hs[j], ?_, (O.row j hs[j] p (List.getElem?_eq_getElem hj2) hj).R (fun k hk => ⟨own_base (O.row j hs[j] p (List.getElem?_eq_getElem hj2) hj) k hk, fun he => ?_⟩)⟩
  · show (hs.drop (j * 1)).take 1 = [hs[j]]
    rw [Nat.mul_one, List.drop_eq_getElem_cons hj2]
    rfl
  · rcases own_type_ne (O.row j hs[j] p (List.getElem?_eq_getElem hj2) hj) O.head (by decide) with h1 | h1
    · rw [h1] at hk; cases hk
    · exact h1 (by rw [hk, he])
theorem N (O : Out w base G hs rows) : Kd.N (Kd.slice 5 (Kd.int .u8)) 24 w base (fun k => base ≤ k) (.slice (some ⟨G, 0, none⟩) rows.length rows.length) rows := Kd.R_N O.R
theorem C (O : Out w base G hs rows) {m : Nat} (hm : m ≤ rows.length) : Kd.C (Kd.slice 5 (Kd.int .u8)) w (some ⟨G, 0, none⟩) (rows.take m).length (rows.take m) := (Kd.R_reads' (Kd.R_take O.R hm)).2.2
/-- A row has been written. -/
theorem put (O : Out w base G hs rows) (hi : hs[i]? = some h) (hk : Kept w w1 (fun k => some k = h.ownBlock)) (hr : BR w1 base h r) : Out w1 base G hs (rows.set i r) := by
  have hl := O.len
  refine ⟨?_, fun j g q hj hq => ?_, O.apart, by rw [List.length_set]; exact O.max⟩
  · rw [List.length_set]
    refine own_move O.head (fun k e => hk.2 k (own_lt O.head k e) (fun h2 => ?_))
    have hil : i < rows.length := by have := (List.getElem?_eq_some_iff.1 hi).1; omega
    rcases own_type_ne (O.row i h rows[i] hi (List.getElem?_eq_getElem hil)) O.head (by decide) with h1 | h1
    · rw [h1] at h2; cases h2
    · exact h1 (by rw [← h2, e])
  · by_cases e : i = j
    · subst e
      rw [hi] at hj
      cases hj
      have hil : i < rows.length := by have := (List.getElem?_eq_some_iff.1 hi).1; omega
      rw [List.getElem?_set_self hil] at hq
      cases hq
      exact hr
    · rw [List.getElem?_set_ne e] at hq
      exact (O.row j g q hj hq).kept hk (fun k hk1 => O.apart j i g h k (Ne.symm e) hj hi hk1)
/-- A row has been put in another's place. -/
theorem set (O : Out w base G hs rows) (hi : i < rows.length) (hr : BR w base v r) (hv : ∀ (j : Nat) (g : Value) (k : Nat), hs[j]? = some g → g.ownBlock = some k → v.ownBlock ≠ some k) : Out (w.setCell ⟨G, i, none⟩ v) base G (hs.set i v) (rows.set i r) := by
  have hl := O.len
  have hst := O.head.stored i v
  have hG : ∀ {u : Value} {q : List Int}, BR w base u q → BR (w.setCell ⟨G, i, none⟩ v) base u q := fun {u q} hu => by
    refine hu.move (fun k e => Below.heap_setCell w ⟨G, i, none⟩ v k (fun e2 => ?_))
    rcases own_type_ne hu O.head (by decide) with h1 | h1
    · rw [h1] at e; cases e
    · exact h1 (by rw [e, e2]; rfl)
  refine ⟨?_, fun j g q hj hq => ?_, fun a b h g k hab ha hb he => ?_, by rw [List.length_set]; exact O.max⟩
  · rw [List.length_set]
    exact hst.1
  · by_cases e : i = j
    · subst e
      rw [List.getElem?_set_self (by omega)] at hj
      rw [List.getElem?_set_self (by omega)] at hq
      cases hj
      cases hq
      exact hG hr
    · rw [List.getElem?_set_ne e] at hj hq
      exact hG (O.row j g q hj hq)
  · by_cases e1 : i = a
    · subst e1
      rw [List.getElem?_set_self (by omega)] at ha
      rw [List.getElem?_set_ne hab] at hb
      cases ha
      intro h2
      exact hv b g k hb h2 he
    · rw [List.getElem?_set_ne e1] at ha
      by_cases e2 : i = b
      · subst e2
        rw [List.getElem?_set_self (by omega)] at hb
        cases hb
        exact hv a h k ha he
      · rw [List.getElem?_set_ne e2] at hb
        exact O.apart a b h g k hab ha hb he
end Out
/-- a row beside them -/
def Beside (w : World) (base : Nat) (hs : List Value) (v : Value) (r : List Int) : Prop := BR w base v r ∧ ∀ (j : Nat) (g : Value) (k : Nat), hs[j]? = some g → g.ownBlock = some k → v.ownBlock ≠ some k
theorem Beside.kept {w w1 : World} {base i : Nat} {hs : List Value} {v h : Value} {r : List Int} (hb : Beside w base hs v r) (hi : hs[i]? = some h) (hk : Kept w w1 (fun k => some k = h.ownBlock)) : Beside w1 base hs v r :=
  ⟨hb.1.kept hk (fun k e h2 => hb.2 i h k hi h2 e), hb.2⟩
theorem Beside.below {w w1 : World} {base : Nat} {hs : List Value} {v : Value} {r : List Int} (hb : Beside w base hs v r) (h : Below w.heap.size w w1) : Beside w1 base hs v r := ⟨hb.1.below h, hb.2⟩
/-- rs.add to one of the rows, of one beside them. -/
theorem out_add {w0 w : World} {G i : Nat} {hs : List Value} {rows : List (List Int)} {h g : Value} {x : List Int} {b : Int} (hB : Below w0.heap.size w0 w) (O : Out w w0.heap.size G hs rows) (hi : hs[i]? = some h) (hg : Beside w w0.heap.size hs g x)
    (hl : x.length ≤ (row rows i).length) (hm : x.length ≤ 1000000) (h1 : Bytes (row rows i)) (h2 : Bytes x) (hb : Byt b) :
    Calls Try.prog 54 #[h, g, .int .u8 b] w fun e w' => e = .returned (.tuple #[]) ∧ Out w' w0.heap.size G hs (rows.set i (addR (row rows i) x b)) ∧ Below w0.heap.size w0 w' ∧ Kept w w' (fun k => some k = h.ownBlock) := by
  have hil : i < rows.length := by have := (List.getElem?_eq_some_iff.1 hi).1; have := O.len; omega
  have hr := O.row i h rows[i] hi (List.getElem?_eq_getElem hil)
  rw [← row_lt hil] at hr
  refine (add_any hB hr hg.1 (fun k e h3 => hg.2 i h k hi h3 e) hl hm h1 h2 hb).mono ?_
  rintro e w' ⟨rfl, g1, g2, g3⟩
  exact ⟨rfl, O.put hi g3 g1, g2, g3⟩
/-- .. of another one of them. -/
theorem out_add_row {w0 w : World} {G i j : Nat} {hs : List Value} {rows : List (List Int)} {h g : Value} {b : Int} (hB : Below w0.heap.size w0 w) (O : Out w w0.heap.size G hs rows) (hi : hs[i]? = some h) (hj : hs[j]? = some g) (hij : i ≠ j)
    (hl : (row rows j).length ≤ (row rows i).length) (hm : (row rows j).length ≤ 1000000) (h1 : Bytes (row rows i)) (h2 : Bytes (row rows j)) (hb : Byt b) :
    Calls Try.prog 54 #[h, g, .int .u8 b] w fun e w' => e = .returned (.tuple #[]) ∧ Out w' w0.heap.size G hs (rows.set i (addR (row rows i) (row rows j) b)) ∧ Below w0.heap.size w0 w' ∧ Kept w w' (fun k => some k = h.ownBlock) := by
  have hil : i < rows.length := by have := (List.getElem?_eq_some_iff.1 hi).1; have := O.len; omega
  have hjl : j < rows.length := by have := (List.getElem?_eq_some_iff.1 hj).1; have := O.len; omega
  have hr := O.row i h rows[i] hi (List.getElem?_eq_getElem hil)
  have hs2 := O.row j g rows[j] hj (List.getElem?_eq_getElem hjl)
  rw [← row_lt hil] at hr
  rw [← row_lt hjl] at hs2
  refine (add_any hB hr hs2 (fun k e => O.apart j i g h k (Ne.symm hij) hj hi e) hl hm h1 h2 hb).mono ?_
  rintro e w' ⟨rfl, g1, g2, g3⟩
  exact ⟨rfl, O.put hi g3 g1, g2, g3⟩
end Go.Proofs.Ytodbmgafejclmaa.Ot
