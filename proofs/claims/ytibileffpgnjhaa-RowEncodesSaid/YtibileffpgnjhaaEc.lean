/-
  Slots: what may be (entry.Check, and the document's).
-/
import Derived.Test.YtibileffpgnjhaaBy
import Derived.BigQuiet
import Derived.BigGuardPart
namespace Go.Proofs.Ytibileffpgnjhaa.Base
open Go.RowKit
set_option linter.unusedSimpArgs false
set_option linter.unusedVariables false
attribute [local go_sem] Ent.arr0 Ent.arr1 Ent.arr2 Ent.set1 Ent.set2 Ent.arr_size Ent.okW Ent.lit run_ldV_ent run_stV_ent ldR_some stR_true rd_new_whole rd_alloc canW_new canW_alloc wr_new wr_alloc rd_drew rd_drewN canW_drew canW_drewN run_bsS_ent run_bsS_ent0 run_eqI_ent rd_setCell rd_setCell_same canW_setCell' Option.map_some cell_wr_other rd_wr_same rd_wr_other
attribute [local go_sem ↓] ldV_ent stV_ent bsS_ent eqI_ent

theorem ldV_dat (a : Addr) : loadVar 42 a = ldV 42 a := rfl
set_option maxRecDepth 100000 in
theorem info_dat : (Try.prog.info? 42).map (·.size) = some 16 := by kernel_rfl
theorem run_ldV_dat (w : World) (b o : Nat) : (ldV 42 ⟨b, o, none⟩).run Try.prog w = ldR Try.prog 42 ⟨b, o, none⟩ (rd w b o 16) w :=
  run_ldV Try.prog 42 16 _ Try.underlying42 rfl info_dat w b o
theorem Ent.ext3 (e : Ent) : e.arr.extract 3 19 = e.data.toArray := rfl
/-- the data of the box of a slot -/
theorem rd_dat (w : World) (e : Ent) (b : Nat) (h : b = w.heap.size) : rd (w.alloc (.cells e.arr 44)) b 3 16 = some e.data.toArray := by
  rw [rd_new _ _ _ _ _ _ _ h (by rw [Ent.arr_size]; omega), Ent.ext3]
theorem eqI_dat (x y : Value) : Op.equalIn 10000 42 x y = eqI 42 x y := rfl
def zd : Fin 16 → Int := fun _ => 0
theorem run_eqI_dat (e f : Ent) (w : World) : (eqI 42 (.agg e.data.toArray) (.agg f.data.toArray)).run Try.prog w = .ok (decide (∀ i, e.d i = f.d i)) w := run_equalIn_data 9998 e f w
theorem dat_lit : (#[.int .u8 0, .int .u8 0, .int .u8 0, .int .u8 0, .int .u8 0, .int .u8 0, .int .u8 0, .int .u8 0, .int .u8 0, .int .u8 0, .int .u8 0, .int .u8 0, .int .u8 0, .int .u8 0, .int .u8 0, .int .u8 0] : Array Value) = Ent.zero.data.toArray := rfl
theorem Ent.arr0g (e : Ent) (h : 0 < e.arr.size) : e.arr[0] = .int .i64 e.k := rfl
theorem Ent.arr1g (e : Ent) (h : 1 < e.arr.size) : e.arr[1] = .int .i64 e.l := rfl
theorem Ent.arr2g (e : Ent) (h : 2 < e.arr.size) : e.arr[2] = .int .i64 e.s := rfl
attribute [local go_sem] Ent.arr0g Ent.arr1g Ent.arr2g run_ldV_dat rd_dat run_eqI_dat dat_lit
attribute [local go_sem ↓] ldV_dat eqI_dat

set_option maxRecDepth 100000 in
theorem has_any (a b n : Int) (w : World) : Calls Try.prog 46 #[.agg #[.int .i64 a, .int .i64 b], .int .i64 n] w fun e w' => e = .returned (.bool (decide (a ≤ n) && decide (n ≤ b))) ∧ w.alloc (.cells #[.int .i64 a, .int .i64 b] 84) = w' := by
  by_cases h1 : a ≤ n
  · by_cases h2 : n ≤ b
    · go_enter Try.func46, Try.ntmps46
      go_wp2_with fail
      go_ret
      exact ⟨by simp [h1, h2], rfl⟩
    · go_enter Try.func46, Try.ntmps46
      go_wp2_with fail
      go_ret
      exact ⟨by simp [h1, h2], rfl⟩
  · have hd : Hid (decide (a ≤ n) = false) := hide (decide_eq_false h1)
    go_enter Try.func46, Try.ntmps46
    go_wp2_with fail
    go_ret
    exact ⟨by rw [unhide hd]; rfl, rfl⟩

/-- may a slot be? -/
def OkE (e : Ent) : Prop := 0 ≤ e.k ∧ e.k ≤ 3 ∧ (if e.k = 1 ∨ e.k = 2 then 0 ≤ e.l ∧ e.l ≤ 65536 ∧ 1 ≤ e.s ∧ e.s ≤ 1099511627776 else e.l = 0 ∧ e.s = 0) ∧ (e.k ≠ 1 → ∀ i, e.d i = 0)
instance (e : Ent) : Decidable (OkE e) := by unfold OkE; exact inferInstance
def chkE (e : Ent) : Int := if OkE e then 0 else 1
theorem chk_yes {e : Ent} (h : OkE e) : chkE e = 0 := if_pos h
theorem chk_no {e : Ent} (h : ¬ OkE e) : chkE e = 1 := if_neg h
theorem has_t (a b n : Int) (w : World) (h : a ≤ n ∧ n ≤ b) : Calls Try.prog 46 #[.agg #[.int .i64 a, .int .i64 b], .int .i64 n] w fun e w' => e = .returned (.bool true) ∧ w.alloc (.cells #[.int .i64 a, .int .i64 b] 84) = w' := by
  have := has_any a b n w
  rw [decide_eq_true h.1, decide_eq_true h.2] at this
  exact this
theorem has_f (a b n : Int) (w : World) (h : ¬ (a ≤ n ∧ n ≤ b)) : Calls Try.prog 46 #[.agg #[.int .i64 a, .int .i64 b], .int .i64 n] w fun e w' => e = .returned (.bool false) ∧ w.alloc (.cells #[.int .i64 a, .int .i64 b] 84) = w' := by
  have := has_any a b n w
  rw [show (decide (a ≤ n) && decide (n ≤ b)) = false from by rw [Bool.and_eq_false_iff]; simp only [decide_eq_false_iff_not]; omega] at this
  exact this
/-- the ways of a slot -/
theorem cases_e (e : Ent) : (e.k < 0 ∧ ¬ e.k = 1 ∧ ¬ e.k = 2) ∨ (3 < e.k ∧ ¬ e.k = 1 ∧ ¬ e.k = 2) ∨
    (e.k = 1 ∧ ¬ (0 ≤ e.l ∧ e.l ≤ 65536)) ∨ (e.k = 1 ∧ (0 ≤ e.l ∧ e.l ≤ 65536) ∧ ¬ (1 ≤ e.s ∧ e.s ≤ 1099511627776)) ∨ (e.k = 1 ∧ (0 ≤ e.l ∧ e.l ≤ 65536) ∧ (1 ≤ e.s ∧ e.s ≤ 1099511627776)) ∨
    (e.k = 2 ∧ ¬ (0 ≤ e.l ∧ e.l ≤ 65536)) ∨ (e.k = 2 ∧ (0 ≤ e.l ∧ e.l ≤ 65536) ∧ ¬ (1 ≤ e.s ∧ e.s ≤ 1099511627776)) ∨ (e.k = 2 ∧ (0 ≤ e.l ∧ e.l ≤ 65536) ∧ (1 ≤ e.s ∧ e.s ≤ 1099511627776) ∧ decide (∀ i, e.d i = Ent.zero.d i) = false) ∨ (e.k = 2 ∧ (0 ≤ e.l ∧ e.l ≤ 65536) ∧ (1 ≤ e.s ∧ e.s ≤ 1099511627776) ∧ decide (∀ i, e.d i = Ent.zero.d i) = true) ∨
    ((0 ≤ e.k ∧ e.k ≤ 3) ∧ (¬ e.k = 1 ∧ ¬ e.k = 2) ∧ ¬ (0 ≤ e.l ∧ e.l ≤ 0)) ∨ ((0 ≤ e.k ∧ e.k ≤ 3) ∧ (¬ e.k = 1 ∧ ¬ e.k = 2) ∧ (0 ≤ e.l ∧ e.l ≤ 0) ∧ ¬ (0 ≤ e.s ∧ e.s ≤ 0)) ∨ ((0 ≤ e.k ∧ e.k ≤ 3) ∧ (¬ e.k = 1 ∧ ¬ e.k = 2) ∧ (0 ≤ e.l ∧ e.l ≤ 0) ∧ (0 ≤ e.s ∧ e.s ≤ 0) ∧ decide (∀ i, e.d i = Ent.zero.d i) = false) ∨ ((0 ≤ e.k ∧ e.k ≤ 3) ∧ (¬ e.k = 1 ∧ ¬ e.k = 2) ∧ (0 ≤ e.l ∧ e.l ≤ 0) ∧ (0 ≤ e.s ∧ e.s ≤ 0) ∧ decide (∀ i, e.d i = Ent.zero.d i) = true) := by
  by_cases k0 : e.k < 0
  · exact .inl ⟨k0, by omega, by omega⟩
  by_cases k3 : 3 < e.k
  · exact .inr (.inl ⟨k3, by omega, by omega⟩)
  refine .inr (.inr ?_)
  by_cases k1 : e.k = 1
  · simp only [k1, true_and]
    by_cases hl : 0 ≤ e.l ∧ e.l ≤ 65536
    · by_cases hs : 1 ≤ e.s ∧ e.s ≤ 1099511627776
      · exact .inr (.inr (.inl ⟨hl, hs⟩))
      · exact .inr (.inl ⟨hl, hs⟩)
    · exact .inl hl
  refine .inr (.inr (.inr ?_))
  by_cases k2 : e.k = 2
  · simp only [k2, true_and]
    by_cases hl : 0 ≤ e.l ∧ e.l ≤ 65536
    · by_cases hs : 1 ≤ e.s ∧ e.s ≤ 1099511627776
      · cases hq : decide (∀ i, e.d i = Ent.zero.d i)
        · exact .inr (.inr (.inl ⟨hl, hs, rfl⟩))
        · exact .inr (.inr (.inr (.inl ⟨hl, hs, rfl⟩)))
      · exact .inr (.inl ⟨hl, hs⟩)
    · exact .inl hl
  refine .inr (.inr (.inr (.inr ?_)))
  have hk : 0 ≤ e.k ∧ e.k ≤ 3 := by omega
  by_cases hl : 0 ≤ e.l ∧ e.l ≤ 0
  · by_cases hs : 0 ≤ e.s ∧ e.s ≤ 0
    · cases hq : decide (∀ i, e.d i = Ent.zero.d i)
      · exact .inr (.inr (.inl ⟨hk, ⟨k1, k2⟩, hl, hs, rfl⟩))
      · exact .inr (.inr (.inr ⟨hk, ⟨k1, k2⟩, hl, hs, rfl⟩))
    · exact .inr (.inl ⟨hk, ⟨k1, k2⟩, hl, hs⟩)
  · exact .inl ⟨hk, ⟨k1, k2⟩, hl⟩
set_option maxRecDepth 100000 in
set_option maxHeartbeats 4000000 in
theorem check_any (e : Ent) (w : World) : Calls Try.prog 27 #[.agg e.arr] w fun x w' => x = .returned (.int .i64 (chkE e)) ∧ Below w.heap.size w w' := by
  rcases cases_e e with ⟨h1, h2, h3⟩ | ⟨h1, h2, h3⟩ | ⟨h1, h2⟩ | ⟨h1, h2, h3⟩ | ⟨h1, h2, h3⟩ | ⟨h1, h2⟩ | ⟨h1, h2, h3⟩ | ⟨h1, h2, h3, h4⟩ | ⟨h1, h2, h3, h4⟩ | ⟨h1, ⟨h2, h3⟩, h4⟩ | ⟨h1, ⟨h2, h3⟩, h4, h5⟩ | ⟨h1, ⟨h2, h3⟩, h4, h5, h6⟩ | ⟨h1, ⟨h2, h3⟩, h4, h5, h6⟩
  all_goals
    have hc : Hid (chkE e = 0) ∨ Hid (chkE e = 1) := by unfold Hid chkE; split <;> simp
    go_enter Try.func27, Try.ntmps27
    go_wp2_with (go_at_call 46; (first | (with_reducible refine (has_t _ _ _ _ (by omega)).mono ?_) | (with_reducible refine (has_f _ _ _ _ (by omega)).mono ?_)); rintro e' w1 ⟨rfl, rfl⟩)
    go_ret
    refine ⟨congrArg (fun z => Ending.returned (Value.int .i64 z)) (?_ : _ = chkE e), ?_⟩
    · first
        | (rw [chk_no]; first | rfl | (rintro ⟨a, b, c, d⟩; first | omega | (rw [if_pos (by omega)] at c; omega) | (rw [if_neg (by omega)] at c; omega) | exact absurd (show ∀ i, e.d i = Ent.zero.d i from d (by omega)) (of_decide_eq_false (by assumption))))
        | (rw [chk_yes]; first | rfl | exact ⟨by omega, by omega, by (first | rw [if_pos (by omega)] | rw [if_neg (by omega)]); omega, fun hne => by first | omega | exact of_decide_eq_true (by assumption)⟩)
    · repeat (first | exact Below.refl _ _ | refine Below.alloc ?_ (by simp <;> omega) _ | refine Below.setCell ?_ (by simp <;> omega) _)
theorem cases_r (e : Ent) : (e.k < 0 ∧ ¬ e.k = 1 ∧ ¬ e.k = 2) ∨ (3 < e.k ∧ ¬ e.k = 1 ∧ ¬ e.k = 2) ∨ (e.k = 1 ∧ e.l < 0) ∨ (e.k = 1 ∧ 65536 < e.l) ∨ (e.k = 1 ∧ (0 ≤ e.l ∧ e.l ≤ 65536) ∧ e.s < 1) ∨ (e.k = 1 ∧ (0 ≤ e.l ∧ e.l ≤ 65536) ∧ 1099511627776 < e.s) ∨ (e.k = 1 ∧ (0 ≤ e.l ∧ e.l ≤ 65536) ∧ (1 ≤ e.s ∧ e.s ≤ 1099511627776)) ∨ (e.k = 2 ∧ e.l < 0) ∨ (e.k = 2 ∧ 65536 < e.l) ∨ (e.k = 2 ∧ (0 ≤ e.l ∧ e.l ≤ 65536) ∧ e.s < 1) ∨ (e.k = 2 ∧ (0 ≤ e.l ∧ e.l ≤ 65536) ∧ 1099511627776 < e.s) ∨ (e.k = 2 ∧ (0 ≤ e.l ∧ e.l ≤ 65536) ∧ (1 ≤ e.s ∧ e.s ≤ 1099511627776) ∧ decide (∀ i, e.d i = Ent.zero.d i) = false) ∨ (e.k = 2 ∧ (0 ≤ e.l ∧ e.l ≤ 65536) ∧ (1 ≤ e.s ∧ e.s ≤ 1099511627776) ∧ decide (∀ i, e.d i = Ent.zero.d i) = true) ∨ ((0 ≤ e.k ∧ e.k ≤ 3) ∧ (¬ e.k = 1 ∧ ¬ e.k = 2) ∧ ¬ e.l = 0) ∨ ((0 ≤ e.k ∧ e.k ≤ 3) ∧ (¬ e.k = 1 ∧ ¬ e.k = 2) ∧ e.l = 0 ∧ ¬ e.s = 0) ∨ ((0 ≤ e.k ∧ e.k ≤ 3) ∧ (¬ e.k = 1 ∧ ¬ e.k = 2) ∧ e.l = 0 ∧ e.s = 0 ∧ decide (∀ i, e.d i = Ent.zero.d i) = false) ∨ ((0 ≤ e.k ∧ e.k ≤ 3) ∧ (¬ e.k = 1 ∧ ¬ e.k = 2) ∧ e.l = 0 ∧ e.s = 0 ∧ decide (∀ i, e.d i = Ent.zero.d i) = true) := by
  rcases cases_e e with ⟨h1, h2, h3⟩ | ⟨h1, h2, h3⟩ | ⟨h1, h2⟩ | ⟨h1, h2, h3⟩ | ⟨h1, h2, h3⟩ | ⟨h1, h2⟩ | ⟨h1, h2, h3⟩ | ⟨h1, h2, h3, h4⟩ | ⟨h1, h2, h3, h4⟩ | ⟨h1, h2, h4⟩ | ⟨h1, h2, h4, h5⟩ | ⟨h1, h2, h4, h5, h6⟩ | ⟨h1, h2, h4, h5, h6⟩
  · exact .inl (⟨h1, h2, h3⟩)
  · exact .inr (.inl (⟨h1, h2, h3⟩))
  · by_cases hx : e.l < 0
    · exact .inr (.inr (.inl (⟨h1, hx⟩)))
    · exact .inr (.inr (.inr (.inl (⟨h1, by omega⟩))))
  · by_cases hx : e.s < 1
    · exact .inr (.inr (.inr (.inr (.inl (⟨h1, h2, hx⟩)))))
    · exact .inr (.inr (.inr (.inr (.inr (.inl (⟨h1, h2, by omega⟩))))))
  · exact .inr (.inr (.inr (.inr (.inr (.inr (.inl (⟨h1, h2, h3⟩)))))))
  · by_cases hx : e.l < 0
    · exact .inr (.inr (.inr (.inr (.inr (.inr (.inr (.inl (⟨h1, hx⟩))))))))
    · exact .inr (.inr (.inr (.inr (.inr (.inr (.inr (.inr (.inl (⟨h1, by omega⟩)))))))))
  · by_cases hx : e.s < 1
    · exact .inr (.inr (.inr (.inr (.inr (.inr (.inr (.inr (.inr (.inl (⟨h1, h2, hx⟩))))))))))
    · exact .inr (.inr (.inr (.inr (.inr (.inr (.inr (.inr (.inr (.inr (.inl (⟨h1, h2, by omega⟩)))))))))))
  · exact .inr (.inr (.inr (.inr (.inr (.inr (.inr (.inr (.inr (.inr (.inr (.inl (⟨h1, h2, h3, h4⟩))))))))))))
  · exact .inr (.inr (.inr (.inr (.inr (.inr (.inr (.inr (.inr (.inr (.inr (.inr (.inl (⟨h1, h2, h3, h4⟩)))))))))))))
  · exact .inr (.inr (.inr (.inr (.inr (.inr (.inr (.inr (.inr (.inr (.inr (.inr (.inr (.inl (⟨h1, h2, by omega⟩))))))))))))))
  · exact .inr (.inr (.inr (.inr (.inr (.inr (.inr (.inr (.inr (.inr (.inr (.inr (.inr (.inr (.inl (⟨h1, h2, by omega, by omega⟩)))))))))))))))
  · exact .inr (.inr (.inr (.inr (.inr (.inr (.inr (.inr (.inr (.inr (.inr (.inr (.inr (.inr (.inr (.inl (⟨h1, h2, by omega, by omega, h6⟩))))))))))))))))
  · exact .inr (.inr (.inr (.inr (.inr (.inr (.inr (.inr (.inr (.inr (.inr (.inr (.inr (.inr (.inr (.inr ((⟨h1, h2, by omega, by omega, h6⟩)))))))))))))))))
set_option maxRecDepth 100000 in
set_option maxHeartbeats 4000000 in
theorem rcheck_any (e : Ent) (w : World) : Calls Try.prog 32 #[.agg e.arr] w fun x w' => x = .returned (.int .i64 (chkE e)) ∧ Below w.heap.size w w' := by
  rcases cases_r e with ⟨h1, h2, h3⟩ | ⟨h1, h2, h3⟩ | ⟨h1, h2⟩ | ⟨h1, h2⟩ | ⟨h1, h2, h3⟩ | ⟨h1, h2, h3⟩ | ⟨h1, h2, h3⟩ | ⟨h1, h2⟩ | ⟨h1, h2⟩ | ⟨h1, h2, h3⟩ | ⟨h1, h2, h3⟩ | ⟨h1, h2, h3, h4⟩ | ⟨h1, h2, h3, h4⟩ | ⟨h1, ⟨h2, h3⟩, h4⟩ | ⟨h1, ⟨h2, h3⟩, h4, h5⟩ | ⟨h1, ⟨h2, h3⟩, h4, h5, h6⟩ | ⟨h1, ⟨h2, h3⟩, h4, h5, h6⟩
  all_goals
    go_enter Try.func32, Try.ntmps32
    go_wp2_with fail
  all_goals
    go_ret
    refine ⟨congrArg (fun z => Ending.returned (Value.int .i64 z)) (?_ : _ = chkE e), ?_⟩
    · first
        | (rw [chk_no]; first | rfl | (rintro ⟨a, b, c, d⟩; first | omega | (rw [if_pos (by omega)] at c; omega) | (rw [if_neg (by omega)] at c; omega) | exact absurd (show ∀ i, e.d i = Ent.zero.d i from d (by omega)) (of_decide_eq_false (by assumption))))
        | (rw [chk_yes]; first | rfl | exact ⟨by omega, by omega, by (first | rw [if_pos (by omega)] | rw [if_neg (by omega)]); omega, fun hne => by first | omega | exact of_decide_eq_true (by assumption)⟩)
    · repeat (first | exact Below.refl _ _ | refine Below.alloc ?_ (by simp <;> omega) _ | refine Below.setCell ?_ (by simp <;> omega) _)
end Go.Proofs.Ytibileffpgnjhaa.Base
