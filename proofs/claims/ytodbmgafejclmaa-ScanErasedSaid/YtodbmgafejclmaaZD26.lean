/-
  Parts of a proof, laid together by a program of mine (pack.py): Sd.
-/
import Derived.Test.YtodbmgafejclmaaZD25
namespace Go.Proofs.Ytodbmgafejclmaa.Base
open Go.RowKit Go.Maps Go.Proofs.YtodbmgafejclmaaW.PrintWords Go.Proofs.YtodbmgafejclmaaW.PrintLast
set_option linter.unusedSimpArgs false
set_option linter.unusedVariables false
def firstS (ps : List Pg) : Nat := ps.findIdx fun p => decide (p.1 ≠ 0)
theorem firstS_no {ps : List Pg} {i : Nat} (h : i < ps.length) (hi : i < firstS ps) : ps[i].1 = 0 := by
  have := List.not_of_lt_findIdx hi
  simpa using this
theorem firstS_yes {ps : List Pg} (h : firstS ps < ps.length) : ps[firstS ps].1 ≠ 0 := by
  have h2 := List.findIdx_getElem (p := fun p : Pg => decide (p.1 ≠ 0)) (xs := ps) (w := h)
  exact of_decide_eq_true h2
theorem stB_first (ps : List Pg) : stB ps = decide (firstS ps < ps.length) := by
  rw [Bool.eq_iff_iff, decide_eq_true_iff]
  unfold stB firstS
  rw [List.any_eq_true, List.findIdx_lt_length]
theorem firstS_le (ps : List Pg) : firstS ps ≤ ps.length := List.findIdx_le_length
set_option maxRecDepth 100000 in
theorem started1_any (s : Int) (A : Option Addr) (n c : Nat) (w : World) (b : Bool) (hb : b = decide (s ≠ 0)) :
    Calls Try.prog 31 #[.agg #[.int .i64 s, .slice A n c]] w fun x w' => x = .returned (.bool b) ∧ Below w.heap.size w w' := by
  by_cases h : s = 0
  · subst h
    have hb' : b = false := by rw [hb]; rfl
    subst hb'
    clear hb
    go_enter Try.func31, Try.ntmps31
    go_wp2_with fail
    go_ret
    exact ⟨by first | done | rfl | simp, (Below.refl _ _).alloc (Nat.le_refl _) _⟩
  · have hb' : b = true := by rw [hb]; exact decide_eq_true h
    subst hb'
    clear hb
    go_enter Try.func31, Try.ntmps31
    go_wp2_with fail
    go_ret
    exact ⟨by first | done | rfl | simp [h], (Below.refl _ _).alloc (Nat.le_refl _) _⟩
set_option maxRecDepth 100000 in
set_option maxHeartbeats 2000000 in
theorem indexp_any (A : Option Addr) (c m : Nat) (ps : List Pg) (w : World) (hn : ps.length ≤ 1000000) (hm : m = firstS ps) (hs0 : Sl w 0 w.heap.size 2 A (ps.map Pg.arr)) :
    Calls Try.prog 43 #[.slice A ps.length c, .func (.func 31) #[] #[]] w fun x w' => x = .returned (.int .i64 (if m < ps.length then (m : Int) else -1)) ∧ Below w.heap.size w w' := by
  have hml : m ≤ ps.length := by rw [hm]; exact firstS_le ps
  have hno : ∀ (i : Nat) (h : i < ps.length), i < m → ps[i].1 = 0 := fun i h hi => firstS_no h (by rw [← hm]; exact hi)
  have hyes : ∀ (h : m < ps.length), ps[m].1 ≠ 0 := by subst hm; exact fun h => firstS_yes h
  replace hm := hide hm; replace hno := hide hno; replace hyes := hide hyes
  obtain ⟨R, hR⟩ : ∃ R, (if m < ps.length then (m : Int) else -1) = R := ⟨_, rfl⟩
  rw [hR]
  replace hR := hide hR
  go_enter Try.func43, Try.ntmps43
  go_wp2_with fail
  go_loopw [5, 8] (fun s5 s8 wr => ∃ j : Nat, j ≤ m ∧ s8 = .int .i64 j ∧ Below w.heap.size w wr) (fun _ s8 _ => ps.length - (intOf s8).toNat)
  case atStart => exact ⟨0, by omega, rfl, Below.refl _ _⟩
  case round =>
    obtain ⟨j, hjm, rfl, hb⟩ := hrel
    have hz := hb.size
    by_cases hje : j < ps.length
    · have hjeI : (j : Int) < ps.length := by omega
      have hj0 : (0 : Int) ≤ j := by omega
      obtain ⟨b, o, rfl, _, hbl, hr⟩ := hs0.at_ (k := j) (by simpa using hje)
      simp only [List.getElem_map] at hr
      have hr2 := (rd_below hb hbl _ _).trans hr
      obtain ⟨X, hX⟩ : ∃ X, X = ps[j] := ⟨_, rfl⟩
      rw [← hX] at hr2
      have c0 : wr.cell? ⟨b, o + j * 2, none⟩ = some (.int .i64 X.1) := rd_cell hr2 0 (by omega)
      have c1 : wr.cell? ⟨b, o + j * 2 + 1, none⟩ = some (.slice X.2.1 X.2.2.2.length X.2.2.1) := rd_cell hr2 1 (by omega)
      by_cases hlt : j < m
      · have hX0 : X.1 = 0 := by rw [hX]; exact (unhide hno) j hje hlt
        have hch := started1_any X.1 X.2.1 X.2.2.2.length X.2.2.1 wr false (by rw [hX0]; rfl)
        obtain ⟨s, A2, c2, bs⟩ := X
        simp only at c0 c1 hch
        generalize bs.length = bl at c1 hch
        clear hX hr hX0 hr2
        go_wp2_with fail
        (with_reducible refine hch.mono ?_)
        rintro x w2 ⟨rfl, hb2⟩
        have hbb : Below w.heap.size w w2 := hb.trans (hb2.mono hz)
        clear hch c0 c1
        go_wp2_with fail
        go_roundw
        case rel => exact ⟨j + 1, by omega, by go_num, hbb⟩
        case measure => simp [intOf]; omega
      · obtain rfl : j = m := by omega
        have hX0 : X.1 ≠ 0 := by rw [hX]; exact (unhide hyes) hje
        have hch := started1_any X.1 X.2.1 X.2.2.2.length X.2.2.1 wr true (by rw [decide_eq_true hX0])
        have hRj : Hid ((j : Int) = R) := by have := unhide hR; rw [if_pos hje] at this; exact hide this
        obtain ⟨s, A2, c2, bs⟩ := X
        simp only at c0 c1 hch
        generalize bs.length = bl at c1 hch
        clear hX hr hX0 hr2
        go_wp2_with fail
        (with_reducible refine hch.mono ?_)
        rintro x w2 ⟨rfl, hb2⟩
        have hbb : Below w.heap.size w w2 := hb.trans (hb2.mono hz)
        clear hch c0 c1
        go_wp2_with fail
        go_ret
        exact ⟨by rw [← unhide hRj]; first | done | rfl, hbb⟩
    · have hjeI : ¬ (j : Int) < ps.length := by omega
      have hRj : Hid ((-1 : Int) = R) := by have := unhide hR; rw [if_neg (by omega)] at this; exact hide this
      go_wp2_with fail
      go_ret
      exact ⟨by rw [← unhide hRj]; first | done | rfl, hb⟩
set_option maxRecDepth 100000 in
theorem containsp_any (A : Option Addr) (c n : Nat) (ps : List Pg) (w : World) (hnn : n = ps.length) (hn : n ≤ 1000000) (hs0 : Sl w 0 w.heap.size 2 A (ps.map Pg.arr)) (b : Bool) (hb : b = stB ps) :
    Calls Try.prog 30 #[.slice A n c, .func (.func 31) #[] #[]] w fun x w' => x = .returned (.bool b) ∧ Below w.heap.size w w' := by
  subst hnn
  have hix := indexp_any A c (firstS ps) ps w hn rfl hs0
  rw [stB_first] at hb
  obtain ⟨m, hm⟩ : ∃ m, m = firstS ps := ⟨_, rfl⟩
  rw [← hm] at hb hix
  replace hm := hide hm
  by_cases h : m < ps.length
  · rw [if_pos h] at hix
    rw [decide_eq_true h] at hb
    subst hb
    go_enter Try.func30, Try.ntmps30
    go_wp2_with fail
    (with_reducible refine hix.mono ?_)
    rintro x w1 ⟨rfl, hb1⟩
    go_wp2_with fail
    go_ret
    exact ⟨by simp, hb1⟩
  · rw [if_neg h] at hix
    rw [decide_eq_false h] at hb
    subst hb
    go_enter Try.func30, Try.ntmps30
    go_wp2_with fail
    (with_reducible refine hix.mono ?_)
    rintro x w1 ⟨rfl, hb1⟩
    go_wp2_with fail
    go_ret
    exact ⟨by simp, hb1⟩
set_option maxRecDepth 100000 in
theorem started_any (A : Option Addr) (c n : Nat) (ps : List Pg) (w : World) (hnn : n = ps.length) (hn : n ≤ 1000000) (hs0 : Sl w 0 w.heap.size 2 A (ps.map Pg.arr)) :
    Calls Try.prog 21 #[.slice A n c] w fun x w' => x = .returned (.bool (stB ps)) ∧ Below w.heap.size w w' := by
  have hc := containsp_any A c n ps w hnn hn hs0 (stB ps) rfl
  generalize stB ps = b at hc ⊢
  clear hnn hs0
  go_enter Try.func21, Try.ntmps21
  go_wp2_with fail
  (with_reducible refine hc.mono ?_)
  rintro x w1 ⟨rfl, hb1⟩
  go_wp2_with fail
  go_ret
  exact ⟨rfl, hb1⟩
end Go.Proofs.Ytodbmgafejclmaa.Base
