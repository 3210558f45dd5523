/-
  Parts of a proof, laid together by a program of mine (pack.py): Rj.
-/
import Derived.Deep.DeepCutAuto
import Derived.Test.YtibileffpgnjhaaZC15
namespace Go.Proofs.Ytibileffpgnjhaa.Base
open Go.RowKit Go.Proofs.YtibileffpgnjhaaW.PrintWords Go.Proofs.YtibileffpgnjhaaW.PrintLast
set_option linter.unusedSimpArgs false
set_option linter.unusedVariables false
attribute [local go_sem] Ent.arr0 Ent.arr1 Ent.arr2 Ent.set1 Ent.set2 Ent.arr_size Ent.okW Ent.lit run_ldV_ent run_stV_ent ldR_some stR_true rd_new_whole rd_alloc canW_new canW_alloc wr_new wr_alloc rd_drew rd_drewN canW_drew canW_drewN run_bsS_ent run_bsS_ent0 run_eqI_ent rd_setCell rd_setCell_same canW_setCell' Option.map_some cell_wr_other rd_wr_same rd_wr_other
attribute [local go_sem ↓] ldV_ent stV_ent bsS_ent eqI_ent
attribute [local go_sem] Ent.arr0g Ent.arr1g Ent.arr2g run_ldV_dat rd_dat run_eqI_dat dat_lit
attribute [local go_sem ↓] ldV_dat eqI_dat
attribute [local go_sem] run_bdE4 run_bdE3 run_bdE1 run_bdE0
attribute [local go_sem ↓] build_ent
set_option maxRecDepth 100000 in
theorem dies_any (n : Int) (w : World) : Calls Try.prog 23 #[.int .i64 n] w fun e w' => e = .returned (.bool (decide (6 ≤ n) && decide (n ≤ 8))) ∧ w = w' := by
  by_cases h1 : 6 ≤ n
  · by_cases h2 : n ≤ 8
    · go_enter Try.func23, Try.ntmps23
      go_wp2_with fail
      go_ret
      exact ⟨by simp [h1, h2], rfl⟩
    · go_enter Try.func23, Try.ntmps23
      go_wp2_with fail
      go_ret
      exact ⟨by simp [h1, h2], rfl⟩
  · have hd : Hid (decide (6 ≤ n) = false) := hide (decide_eq_false h1)
    go_enter Try.func23, Try.ntmps23
    go_wp2_with fail
    go_ret
    exact ⟨by rw [unhide hd]; rfl, rfl⟩
set_option maxRecDepth 100000 in
theorem place_any (n : Int) (w : World) : Calls Try.prog 24 #[.int .i64 n] w fun e w' => e = .returned (.bool (decide (0 ≤ n) && decide (n ≤ 255))) ∧ w = w' := by
  by_cases h1 : 0 ≤ n
  · by_cases h2 : n ≤ 255
    · go_enter Try.func24, Try.ntmps24
      go_wp2_with fail
      go_ret
      exact ⟨by simp [h1, h2], rfl⟩
    · go_enter Try.func24, Try.ntmps24
      go_wp2_with fail
      go_ret
      exact ⟨by simp [h1, h2], rfl⟩
  · have hd : Hid (decide (0 ≤ n) = false) := hide (decide_eq_false h1)
    go_enter Try.func24, Try.ntmps24
    go_wp2_with fail
    go_ret
    exact ⟨by rw [unhide hd]; rfl, rfl⟩
set_option maxRecDepth 100000 in
theorem enc1_any (e : Ent) (w : World) (b : Bool) (hb : b = !(decide (OkE e))) : Calls Try.prog 26 #[.agg e.arr] w fun x w' => x = .returned (.bool b) ∧ Below w.heap.size w w' := by
  have hch := check_any e (w.alloc (.cells e.arr 44))
  by_cases h : OkE e
  · rw [chk_yes h] at hch
    rw [decide_eq_true h] at hb
    subst hb
    clear h
    go_enter Try.func26, Try.ntmps26
    go_wp2_with fail
    (with_reducible refine hch.mono ?_)
    rintro x w1 ⟨rfl, hb1⟩
    go_wp2_with fail
    go_ret
    exact ⟨rfl, ((Below.refl _ _).alloc (Nat.le_refl _) _).trans (hb1.mono (by simp))⟩
  · rw [chk_no h] at hch
    rw [decide_eq_false h] at hb
    subst hb
    clear h
    go_enter Try.func26, Try.ntmps26
    go_wp2_with fail
    (with_reducible refine hch.mono ?_)
    rintro x w1 ⟨rfl, hb1⟩
    go_wp2_with fail
    go_ret
    exact ⟨rfl, ((Below.refl _ _).alloc (Nat.le_refl _) _).trans (hb1.mono (by simp))⟩
/-- m: the first slot that may not be, or as many as there are -/
def FirstBad (es : List Ent) (m : Nat) : Prop := m ≤ es.length ∧ (∀ (i : Nat) (h : i < es.length), i < m → OkE es[i]) ∧ (∀ h : m < es.length, ¬ OkE es[m])
theorem firstBad : ∀ (es : List Ent), ∃ m, FirstBad es m := by
  intro es
  by_cases h : ∃ k, ∃ hk : k < es.length, ¬ OkE es[k]
  · let P : Nat → Prop := fun k => ∃ hk : k < es.length, ¬ OkE es[k]
    have hex : ∃ k, P k := h
    suffices ∀ n, (∃ k, k ≤ n ∧ P k) → ∃ m, P m ∧ ∀ i, i < m → ¬ P i by
      obtain ⟨k, hk⟩ := hex
      obtain ⟨m, ⟨hm, hb⟩, hmin⟩ := this k ⟨k, Nat.le_refl _, hk⟩
      refine ⟨m, Nat.le_of_lt hm, fun i hi him => ?_, fun _ => hb⟩
      have := hmin i him
      exact Classical.byContradiction fun hc => this ⟨hi, hc⟩
    intro n
    induction n with
    | zero =>
      rintro ⟨k, hk, hP⟩
      obtain rfl : k = 0 := by omega
      exact ⟨0, hP, fun i hi => by omega⟩
    | succ n ih =>
      rintro ⟨k, hk, hP⟩
      by_cases h2 : ∃ k, k ≤ n ∧ P k
      · exact ih h2
      · refine ⟨k, hP, fun i hi hPi => h2 ⟨i, by omega, hPi⟩⟩
  · refine ⟨es.length, Nat.le_refl _, fun i hi _ => Classical.byContradiction fun hc => h ⟨i, hi, hc⟩, fun hm => absurd hm (Nat.lt_irrefl _)⟩
set_option maxRecDepth 100000 in
set_option maxHeartbeats 4000000 in
theorem index_any (A : Option Addr) (c m : Nat) (es : List Ent) (w : World) (hn : es.length ≤ 1000000) (hf : FirstBad es m) (hs0 : Sl w 0 w.heap.size 19 A (es.map Ent.arr)) :
    Calls Try.prog 45 #[.slice A es.length c, .func (.func 26) #[] #[]] w fun x w' => x = .returned (.int .i64 (if m < es.length then (m : Int) else -1)) ∧ Below w.heap.size w w' := by
  obtain ⟨hm, hok, hbad⟩ := hf
  replace hok := hide hok; replace hbad := hide hbad
  obtain ⟨R, hR⟩ : ∃ R, (if m < es.length then (m : Int) else -1) = R := ⟨_, rfl⟩
  rw [hR]
  replace hR := hide hR
  go_enter Try.func45, Try.ntmps45
  go_wp2_with fail
  go_loopw [5, 8] (fun s5 s8 wr => ∃ j : Nat, j ≤ m ∧ s8 = .int .i64 j ∧ Below w.heap.size w wr) (fun _ s8 _ => es.length - (intOf s8).toNat)
  case atStart => exact ⟨0, by omega, rfl, Below.refl _ _⟩
  case round =>
    obtain ⟨j, hjm, rfl, hb⟩ := hrel
    have hz := hb.size
    by_cases hje : j < es.length
    · have hjeI : (j : Int) < es.length := by omega
      have hj0 : (0 : Int) ≤ j := by omega
      obtain ⟨b, o, rfl, _, hbl, hr⟩ := hs0.at_ (k := j) (by simpa using hje)
      simp only [List.getElem_map] at hr
      have hr2 := (rd_below hb hbl _ _).trans hr
      obtain ⟨X, hX⟩ : ∃ X, X = es[j] := ⟨_, rfl⟩
      rw [← hX] at hr2
      by_cases hlt : j < m
      · have hXo : OkE X := by rw [hX]; exact (unhide hok) j hje hlt
        have hch := enc1_any X wr false (by rw [decide_eq_true hXo]; rfl)
        clear hX hr hXo
        go_wp2_with fail
        (with_reducible refine hch.mono ?_)
        rintro x w2 ⟨rfl, hb2⟩
        have hbb : Below w.heap.size w w2 := hb.trans (hb2.mono hz)
        clear hch hr2
        go_wp2_with fail
        go_roundw
        case rel => exact ⟨j + 1, by omega, by go_num, hbb⟩
        case measure => simp [intOf]; omega
      · obtain rfl : j = m := by omega
        have hXo : ¬ OkE X := by rw [hX]; exact (unhide hbad) hje
        have hch := enc1_any X wr true (by rw [decide_eq_false hXo]; rfl)
        have hRj : Hid ((j : Int) = R) := by have := unhide hR; rw [if_pos hje] at this; exact hide this
        clear hX hr hXo
        go_wp2_with fail
        (with_reducible refine hch.mono ?_)
        rintro x w2 ⟨rfl, hb2⟩
        have hbb : Below w.heap.size w w2 := hb.trans (hb2.mono hz)
        clear hch hr2
        go_wp2_with fail
        go_ret
        exact ⟨by rw [← unhide hRj]; first | done | rfl, hbb⟩
    · have hjeI : ¬ (j : Int) < es.length := by omega
      have hRj : Hid ((-1 : Int) = R) := by have := unhide hR; rw [if_neg (by omega)] at this; exact hide this
      go_wp2_with fail
      go_ret
      exact ⟨by rw [← unhide hRj]; first | done | rfl, hb⟩
set_option maxRecDepth 100000 in
theorem contains_bad (A : Option Addr) (c m : Nat) (es : List Ent) (w : World) (hn : es.length ≤ 1000000) (hf : FirstBad es m) (hs0 : Sl w 0 w.heap.size 19 A (es.map Ent.arr)) (b : Bool) (hb : b = decide (m < es.length)) :
    Calls Try.prog 25 #[.slice A es.length c, .func (.func 26) #[] #[]] w fun x w' => x = .returned (.bool b) ∧ Below w.heap.size w w' := by
  have hix := index_any A c m es w hn hf hs0
  by_cases h : m < es.length
  · rw [if_pos h] at hix
    rw [decide_eq_true h] at hb
    subst hb
    go_enter Try.func25, Try.ntmps25
    go_wp2_with fail
    (with_reducible refine hix.mono ?_)
    rintro x w1 ⟨rfl, hb1⟩
    go_wp2_with fail
    go_ret
    exact ⟨by simp, hb1⟩
  · rw [if_neg h] at hix
    rw [decide_eq_false h] at hb
    subst hb
    go_enter Try.func25, Try.ntmps25
    go_wp2_with fail
    (with_reducible refine hix.mono ?_)
    rintro x w1 ⟨rfl, hb1⟩
    go_wp2_with fail
    go_ret
    exact ⟨by simp, hb1⟩
end Go.Proofs.Ytibileffpgnjhaa.Base
