/-
  Parities, checks and rs.Fix, plainly.
-/
import Derived.Test.YtdbnladpogpiiaaFw
import Derived.Test.YtdbnladpogpiiaaPRrx3
namespace Go.Proofs.Ytdbnladpogpiiaa.Co
open Go.RowKit Go.Proofs.YtdbnladpogpiiaaW.PrintWords
open Go.Proofs.Ytdbnladpogpiiaa.PRq Go.Proofs.Ytdbnladpogpiiaa.Fld Go.Proofs.Ytdbnladpogpiiaa.Pl Go.Proofs.Ytdbnladpogpiiaa.Ot Go.Proofs.Ytdbnladpogpiiaa.Tw Go.Proofs.Ytdbnladpogpiiaa.Kp Go.Proofs.Ytdbnladpogpiiaa.Fw
set_option linter.unusedSimpArgs false
set_option linter.unusedVariables false

/-! ### slices.Equal, rs.Parity, rs.Check -/
theorem equal_l0 (a b : List Int) (h : a.length = b.length) (hm : a.length ≤ 1000000) : ∀ d i, a.length - i = d → i ≤ a.length → Ev (fun k => slices_Equal_byte_byte.l0 k a b (a.length : Int) (i : Int)) (decide (a.drop i = b.drop i))
  | 0, i, hd, hi => by
    obtain rfl : i = a.length := by omega
    refine Ev.step (f := fun _ => some true) (fun k => ?_) ?_
    · rw [slices_Equal_byte_byte.l0, if_neg (by omega)]
    · rw [List.drop_length, h, List.drop_length]
      exact Ev.now _
  | d + 1, i, hd, hi => by
    have hia : i < a.length := by omega
    have hib : i < b.length := by omega
    have ea : a.drop i = a[i] :: a.drop (i + 1) := List.drop_eq_getElem_cons hia
    have eb : b.drop i = b[i] :: b.drop (i + 1) := List.drop_eq_getElem_cons hib
    by_cases hq : a[i] = b[i]
    · refine Ev.step (f := fun k => slices_Equal_byte_byte.l0 k a b (a.length : Int) ((i + 1 : Nat) : Int)) (fun k => ?_) ?_
      · rw [slices_Equal_byte_byte.l0, if_pos (by omega), if_pos (by omega), if_pos (by omega), if_pos (by omega), rd_nat, rd_nat, at_lt hia, at_lt hib, if_pos hq, w64 (by omega) (by omega)]; rfl
      · have := equal_l0 a b h hm d (i + 1) (by omega) (by omega)
        have e : decide (a.drop i = b.drop i) = decide (a.drop (i + 1) = b.drop (i + 1)) := by
          rw [decide_eq_decide, ea, eb, hq]
          exact ⟨fun h => (List.cons.inj h).2, fun h => by rw [h]⟩
        rw [e]
        exact this
    · refine Ev.step (f := fun _ => some false) (fun k => ?_) ?_
      · rw [slices_Equal_byte_byte.l0, if_pos (by omega), if_pos (by omega), if_pos (by omega), if_pos (by omega), rd_nat, rd_nat, at_lt hia, at_lt hib, if_neg hq]
      · have e : decide (a.drop i = b.drop i) = false := by
          rw [decide_eq_false_iff_not, ea, eb]
          exact fun h => hq (List.cons.inj h).1
        rw [e]
        exact Ev.now _
theorem equal_ev (a b : List Int) (hm : a.length ≤ 1000000) : Ev (fun k => slices_Equal_byte_byte.f k a b) (decide (a = b)) := by
  by_cases h : a.length = b.length
  · have := equal_l0 a b h hm a.length 0 (by omega) (by omega)
    simp only [List.drop_zero] at this
    refine Ev.congr (fun k => ?_) this
    rw [slices_Equal_byte_byte.f, if_pos (by omega)]
    rfl
  · refine Ev.congr (f := fun _ => some false) (fun k => ?_) ?_
    · rw [slices_Equal_byte_byte.f, if_neg (by omega)]
    · have e : decide (a = b) = false := by
        rw [decide_eq_false_iff_not]; intro h2; exact h (by rw [h2])
      rw [e]; exact Ev.now _
theorem equal_r (a b : List Int) (hm : a.length ≤ 1000000) : PRr.slices_Equal_byte_byte.f a b = some (decide (a = b)) := Lim.lim_ev (fun k => PRq.slices_Equal_byte_byte.mono _ _ k) (equal_ev a b hm)
theorem parity_bad (L : List (List Int)) (hm : L.length ≤ 1000000) (h : L.length < 2 ∨ 14 < L.length) : Ev (fun k => rs_Parity.f k L) (([] : List Int), ([] : List Int)) := by
  refine Ev.bind (alike_ev L hm) (Ev.congr (f := fun _ => some ([], [])) (fun k => ?_) (Ev.now _))
  split
  · rcases h with h | h
    · rw [if_pos rfl, if_pos (by omega)]
    · rw [if_pos rfl, if_neg (by omega), if_pos (by omega)]
  · rw [if_neg (by simp)]
theorem parity_r (L : List (List Int)) (n : Nat) (hn : ∀ r ∈ L, r.length = n) (hL : ∀ r ∈ L, Bytes r) (h2 : 2 ≤ L.length) (h14 : L.length ≤ 14) (hn2 : n ≤ 281474976710656) : PRr.rs_Parity.f L = some (sumP L n, sumQ L n) :=
  Lim.lim_ev (fun k => PRq.rs_Parity.mono _ k) (parity_ev L n hn hL h2 h14 hn2)
theorem alike_l0 : ∀ (k : Nat) (n : Int) (L : List (List Int)) (m i : Int), PRr.rs_alike.l0 k n L m i = PRq.rs_alike.l0 k n L m i
  | 0, _, _, _, _ => rfl
  | k + 1, n, L, m, i => by
    have ih := alike_l0 k
    simp only [PRr.rs_alike.l0, PRq.rs_alike.l0, ih]
    rfl
theorem alike_f (k : Nat) (L : List (List Int)) : PRr.rs_alike.f k L = PRq.rs_alike.f k L := alike_l0 k 0 L _ 0
theorem check_bad (L : List (List Int)) (hm : L.length ≤ 1000000) (h : L.length < 4 ∨ 16 < L.length ∨ alikeR L = false) : Ev (fun k => PRr.rs_Check.f k L) false := by
  have ha := alike_ev L hm
  have hr : Ev (fun k => PRr.rs_alike.f k L) (if alikeR L then ((lenR L : Nat), true) else ((0 : Int), false)) := Ev.congr (fun k => alike_f k L) ha
  refine Ev.bind hr ?_
  refine Ev.congr (f := fun k => PRr.rs_Check.j0 k L true) (fun k => ?_) (Ev.step (f := fun _ => some false) (fun k => by rw [PRr.rs_Check.j0, if_pos rfl]) (Ev.now _))
  split
  · rename_i hal
    rw [if_pos rfl]
    rcases h with h | h | h
    · rw [if_pos (by omega)]
    · rw [if_neg (by omega), decide_eq_true (by omega)]
    · rw [h] at hal; cases hal
  · rw [if_neg (by simp)]
theorem check_ev (L : List (List Int)) (n d : Nat) (hL : GoodR n L) (hd : L.length = d + 2) (h4 : 4 ≤ L.length) (h16 : L.length ≤ 16) (hn : n ≤ 1000000) : Ev (fun k => PRr.rs_Check.f k L) (decide (sumP (L.take d) n = row L d) && decide (sumQ (L.take d) n = row L (d + 1))) := by
  have ha := alike_ev L (by omega)
  rw [if_pos (alikeR_of (fun r h => (hL r h).1))] at ha
  have hr : Ev (fun k => PRr.rs_alike.f k L) ((lenR L : Nat), true) := Ev.congr (fun k => alike_f k L) ha
  refine Ev.bind hr ?_
  refine Ev.congr (f := fun k => PRr.rs_Check.j0 k L false) (fun k => ?_) ?_
  · rw [if_pos rfl, if_neg (by omega), decide_eq_false (by omega)]
  · refine Ev.step (f := fun _ => some (decide (sumP (L.take d) n = row L d) && decide (sumQ (L.take d) n = row L (d + 1)))) (fun k => ?_) (Ev.now _)
    have e1 : wrap64 ((L.length : Int) - 2) = (d : Int) := by rw [w64 (by omega) (by omega)]; omega
    have e2 : wrap64 ((d : Int) + 1) = ((d + 1 : Nat) : Int) := by rw [w64 (by omega) (by omega)]; rfl
    have hp := parity_r (L.take d) n (fun r h => (good_take hL r h).1) (fun r h => (good_take hL r h).2) (by rw [List.length_take]; omega) (by rw [List.length_take]; omega) (by omega)
    have r1 : ∀ j : Nat, PRr.rd_L2 L (j : Int) = row L j := fun j => by unfold PRr.rd_L2 row; simp
    rw [PRr.rs_Check.j0, if_neg (by simp), e1, if_pos (by omega), if_pos (by omega), Int.toNat_natCast, hp]
    simp only [Option.bind_some]
    rw [if_pos (by omega), r1, equal_r _ _ (by rw [sumP_len]; exact hn)]
    simp only [Option.bind_some]
    by_cases hq : sumP (L.take d) n = row L d
    · rw [decide_eq_true hq, if_pos rfl, e2, if_pos (by omega), if_pos (by omega), r1, equal_r _ _ (by rw [sumQ_len]; exact hn)]
      rfl
    · rw [decide_eq_false hq, if_neg (by simp)]
      rfl

/-! ### rs.Fix where nothing is lost -/
theorem kept_nil (L : List (List Int)) : kept L [] = L := by
  rw [kept_idx]
  have e : idx L.length [] = List.range L.length := by
    unfold idx
    rw [List.filter_eq_self]
    intro a _
    rfl
  rw [e]
  apply List.ext_getElem (by simp)
  intro i h1 h2
  simp [row, h2]
theorem ownR_nil (L : List (List Int)) (n : Nat) : ownR L [] n = L := by
  apply List.ext_getElem (by simp [ownR])
  intro i h1 h2
  simp [ownR]
theorem fixR_nil (L : List (List Int)) : fixR L [] = L := by
  unfold fixR
  simp [srt, dataR, parR, ownR_nil]
theorem mayB_nil (L : List (List Int)) (n : Nat) (hn : ∀ r ∈ L, r.length = n) : mayB L [] = (decide (4 ≤ L.length) && decide (L.length ≤ 16)) := by
  unfold mayB
  rw [kept_nil, alikeR_of hn]
  simp
theorem fixF_of {L : List (List Int)} {lost : List Int} (hb : ∀ r ∈ L, Bytes r) (hl : ∀ r ∈ L, r.length ≤ 1000000) (h1 : lost.length ≤ 1000000) (h2 : L.length ≤ 1000000) : fixF L lost = if mayB L lost then some (fixR L lost, true) else some ([], false) := by
  unfold fixF
  rw [if_pos ⟨hb, hl, h1, h2⟩]
end Go.Proofs.Ytdbnladpogpiiaa.Co
