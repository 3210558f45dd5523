/-
  Parities, checks and rs.Fix, plainly.
-/
import Derived.Test.YtdbnladpogpiiaaFw
import Derived.Test.YtdbnladpogpiiaaPRrx3
import Derived.Test.YtdbnladpogpiiaaPRrx2
import Derived.Test.YtdbnladpogpiiaaPRqx0
import Derived.Test.YtdbnladpogpiiaaFx
import Derived.Lib.Hide
import Derived.Lib.Bytes
import Derived.Test.YtdbnladpogpiiaaKp
import Derived.Test.YtdbnladpogpiiaaProg
import Derived.Below
import Derived.Deep.Draws
import Derived.Deep.AppendLies
import Derived.Maps.AppendAt
import Derived.OwnWalk
import Derived.Laws.BytesArg
import Derived.Laws.MakeOwn
import Derived.Laws.OwnMore
import Derived.Deep.OwnRows
import Derived.Tactics
import Derived.Lib.ConvBytes
import Derived.Laws.Slices
import Derived.WalkKit
import Derived.KernelRfl
import Derived.RowKit3
import Derived.Deep.LoopGhost
import Derived.Deep.QuietTactic
import Derived.BigQuiet
import Derived.WideLaws
import Derived.Deep.DeepCutAuto
import Derived.Deep.CutBlock
import Derived.Deep.RegionHeld3
import Derived.Laws.Rows
import Derived.Lib.AppendStr
import Derived.ArgAppend
import Derived.Laws.IdiomCopy
import Derived.OrdersHeld
import Derived.Laws.BitsLemmas
import Derived.RowKit
import Derived.Test.YtdbnladpogpiiaaWWords
import Derived.Test.YtdbnladpogpiiaaWLast
import Derived.Test.YtdbnladpogpiiaaWTab
import Derived.Test.YtdbnladpogpiiaaWFour
import Derived.Test.YtdbnladpogpiiaaWQPut
import Derived.Test.YtdbnladpogpiiaaWApart
import Derived.Test.YtdbnladpogpiiaaWArr
import Derived.Test.YtdbnladpogpiiaaWZeros
import Derived.Test.YtdbnladpogpiiaaWFoot
import Derived.Test.YtdbnladpogpiiaaWKept
import Derived.Test.YtdbnladpogpiiaaWShare
import Derived.Test.YtdbnladpogpiiaaWN
import Derived.Test.YtdbnladpogpiiaaWFootNe
import Derived.Test.YtdbnladpogpiiaaWAt
import Derived.Test.YtdbnladpogpiiaaWEqStruct
import Derived.Test.YtdbnladpogpiiaaWRepsOne
import Derived.Test.YtdbnladpogpiiaaWInv
import Derived.Test.YtdbnladpogpiiaaWInvWords
import Derived.Test.YtdbnladpogpiiaaWGuard
import Derived.Test.YtdbnladpogpiiaaWNEv
import Derived.Test.YtdbnladpogpiiaaWMore
import Derived.Test.YtdbnladpogpiiaaLim
import Derived.Test.YtdbnladpogpiiaaPRqx3
import Derived.IntWalk
import Derived.StillTailTactics
namespace Go.Proofs.Ytdbnladpogpiiaa.Co
open Go.RowKit Go.Proofs.YtdbnladpogpiiaaW.PrintWords
open Go.Proofs.Ytdbnladpogpiiaa.PRq Go.Proofs.Ytdbnladpogpiiaa.Fld Go.Proofs.Ytdbnladpogpiiaa.Pl Go.Proofs.Ytdbnladpogpiiaa.Ot Go.Proofs.Ytdbnladpogpiiaa.Tw Go.Proofs.Ytdbnladpogpiiaa.Kp Go.Proofs.Ytdbnladpogpiiaa.Fw
set_option linter.unusedSimpArgs false
set_option linter.unusedVariables false

/-! ### slices.Equal, rs.Parity, rs.Check -/
theorem equal_l0 (a b : List Int) (h : a.length = b.length) (hm : a.length ≤ 1000000) : ∀ d i, a.length - i = d → i ≤ a.length → Ev (fun k => slices_Equal_byte_byte.l0 k a b (a.length : Int) (i : Int)) (decide (a.drop i = b.drop i))
  | 0, i, hd, hi => by
    obtain rfl : i = a.length := by omega
    refine Ev.step (f := fun _ => some true) (fun k => ?_) ?_
    · rw [slices_Equal_byte_byte.l0, if_neg (by omega)]
    · rw [List.drop_length, h, List.drop_length]
      exact Ev.now _
  | d + 1, i, hd, hi => by
    have hia : i < a.length := by omega
    have hib : i < b.length := by omega
    have ea : a.drop i = a[i] :: a.drop (i + 1) := List.drop_eq_getElem_cons hia
    have eb : b.drop i = b[i] :: b.drop (i + 1) := List.drop_eq_getElem_cons hib
    by_cases hq : a[i] = b[i]
    · refine Ev.step (f := fun k => slices_Equal_byte_byte.l0 k a b (a.length : Int) ((i + 1 : Nat) : Int)) (fun k => ?_) ?_
      · rw [slices_Equal_byte_byte.l0, if_pos (by omega), if_pos (by omega), if_pos (by omega), if_pos (by omega), rd_nat, rd_nat, at_lt hia, at_lt hib, if_pos hq, w64 (by omega) (by omega)]; rfl
      · have := equal_l0 a b h hm d (i + 1) (by omega) (by omega)
        have e : decide (a.drop i = b.drop i) = decide (a.drop (i + 1) = b.drop (i + 1)) := by
          rw [decide_eq_decide, ea, eb, hq]
          exact ⟨fun h => (List.cons.inj h).2, fun h => by rw [h]⟩
        rw [e]
        exact this
    · refine Ev.step (f := fun _ => some false) (fun k => ?_) ?_
      · rw [slices_Equal_byte_byte.l0, if_pos (by omega), if_pos (by omega), if_pos (by omega), if_pos (by omega), rd_nat, rd_nat, at_lt hia, at_lt hib, if_neg hq]
      · have e : decide (a.drop i = b.drop i) = false := by
          rw [decide_eq_false_iff_not, ea, eb]
          exact fun h => hq (List.cons.inj h).1
        rw [e]
        exact Ev.now _
theorem equal_ev (a b : List Int) (hm : a.length ≤ 1000000) : Ev (fun k => slices_Equal_byte_byte.f k a b) (decide (a = b)) := by
  by_cases h : a.length = b.length
  · have := equal_l0 a b h hm a.length 0 (by omega) (by omega)
    simp only [List.drop_zero] at this
    refine Ev.congr (fun k => ?_) this
    rw [slices_Equal_byte_byte.f, if_pos (by omega)]
    rfl
  · refine Ev.congr (f := fun _ => some false) (fun k => ?_) ?_
    · rw [slices_Equal_byte_byte.f, if_neg (by omega)]
    · have e : decide (a = b) = false := by
        rw [decide_eq_false_iff_not]; intro h2; exact h (by rw [h2])
      rw [e]; exact Ev.now _
theorem equal_r (a b : List Int) (hm : a.length ≤ 1000000) : PRr.slices_Equal_byte_byte.f a b = some (decide (a = b)) := Lim.lim_ev (fun k => PRq.slices_Equal_byte_byte.mono _ _ k) (equal_ev a b hm)
theorem parity_bad (L : List (List Int)) (hm : L.length ≤ 1000000) (h : L.length < 2 ∨ 14 < L.length) : Ev (fun k => rs_Parity.f k L) (([] : List Int), ([] : List Int)) := by
  refine Ev.bind (alike_ev L hm) (Ev.congr (f := fun _ => some ([], [])) (fun k => ?_) (Ev.now _))
  split
  · rcases h with h | h
    · rw [if_pos rfl, if_pos (by omega)]
    · rw [if_pos rfl, if_neg (by omega), if_pos (by omega)]
  · rw [if_neg (by simp)]
theorem parity_r (L : List (List Int)) (n : Nat) (hn : ∀ r ∈ L, r.length = n) (hL : ∀ r ∈ L, Bytes r) (h2 : 2 ≤ L.length) (h14 : L.length ≤ 14) (hn2 : n ≤ 281474976710656) : PRr.rs_Parity.f L = some (sumP L n, sumQ L n) :=
  Lim.lim_ev (fun k => PRq.rs_Parity.mono _ k) (parity_ev L n hn hL h2 h14 hn2)
theorem alike_l0 : ∀ (k : Nat) (n : Int) (L : List (List Int)) (m i : Int), PRr.rs_alike.l0 k n L m i = PRq.rs_alike.l0 k n L m i
  | 0, _, _, _, _ => rfl
  | k + 1, n, L, m, i => by
    have ih := alike_l0 k
    simp only [PRr.rs_alike.l0, PRq.rs_alike.l0, ih]
    rfl
theorem alike_f (k : Nat) (L : List (List Int)) : PRr.rs_alike.f k L = PRq.rs_alike.f k L := alike_l0 k 0 L _ 0
theorem check_bad (L : List (List Int)) (hm : L.length ≤ 1000000) (h : L.length < 4 ∨ 16 < L.length ∨ alikeR L = false) : Ev (fun k => PRr.rs_Check.f k L) false := by
  have ha := alike_ev L hm
  have hr : Ev (fun k => PRr.rs_alike.f k L) (if alikeR L then ((lenR L : Nat), true) else ((0 : Int), false)) := Ev.congr (fun k => alike_f k L) ha
  refine Ev.bind hr ?_
  refine Ev.congr (f := fun k => PRr.rs_Check.j0 k L true) (fun k => ?_) (Ev.step (f := fun _ => some false) (fun k => by rw [PRr.rs_Check.j0, if_pos rfl]) (Ev.now _))
  split
  · rename_i hal
    rw [if_pos rfl]
    rcases h with h | h | h
    · rw [if_pos (by omega)]
    · rw [if_neg (by omega), decide_eq_true (by omega)]
    · rw [h] at hal; cases hal
  · rw [if_neg (by simp)]
theorem check_ev (L : List (List Int)) (n d : Nat) (hL : GoodR n L) (hd : L.length = d + 2) (h4 : 4 ≤ L.length) (h16 : L.length ≤ 16) (hn : n ≤ 1000000) : Ev (fun k => PRr.rs_Check.f k L) (decide (sumP (L.take d) n = row L d) && decide (sumQ (L.take d) n = row L (d + 1))) := by
  have ha := alike_ev L (by omega)
  rw [if_pos (alikeR_of (fun r h => (hL r h).1))] at ha
  have hr : Ev (fun k => PRr.rs_alike.f k L) ((lenR L : Nat), true) := Ev.congr (fun k => alike_f k L) ha
  refine Ev.bind hr ?_
  refine Ev.congr (f := fun k => PRr.rs_Check.j0 k L false) (fun k => ?_) ?_
  · rw [if_pos rfl, if_neg (by omega), decide_eq_false (by omega)]
  · refine Ev.step (f := fun _ => some (decide (sumP (L.take d) n = row L d) && decide (sumQ (L.take d) n = row L (d + 1)))) (fun k => ?_) (Ev.now _)
    have e1 : wrap64 ((L.length : Int) - 2) = (d : Int) := by rw [w64 (by omega) (by omega)]; omega
    have e2 : wrap64 ((d : Int) + 1) = ((d + 1 : Nat) : Int) := by rw [w64 (by omega) (by omega)]; rfl
    have hp := parity_r (L.take d) n (fun r h => (good_take hL r h).1) (fun r h => (good_take hL r h).2) (by rw [List.length_take]; omega) (by rw [List.length_take]; omega) (by omega)
    have r1 : ∀ j : Nat, PRr.rd_L2 L (j : Int) = row L j := fun j => by unfold PRr.rd_L2 row; simp
    rw [PRr.rs_Check.j0, if_neg (by simp), e1, if_pos (by omega), if_pos (by omega), Int.toNat_natCast, hp]
    simp only [Option.bind_some]
    rw [if_pos (by omega), r1, equal_r _ _ (by rw [sumP_len]; exact hn)]
    simp only [Option.bind_some]
    by_cases hq : sumP (L.take d) n = row L d
    · rw [decide_eq_true hq, if_pos rfl, e2, if_pos (by omega), if_pos (by omega), r1, equal_r _ _ (by rw [sumQ_len]; exact hn)]
      rfl
    · rw [decide_eq_false hq, if_neg (by simp)]
      rfl

/-! ### rs.Fix where nothing is lost -/
theorem kept_nil (L : List (List Int)) : kept L [] = L := by
  rw [kept_idx]
  have e : idx L.length [] = List.range L.length := by
    unfold idx
    rw [List.filter_eq_self]
    intro a _
    rfl
  rw [e]
  apply List.ext_getElem (by simp)
  intro i h1 h2
  simp [row, h2]
theorem ownR_nil (L : List (List Int)) (n : Nat) : ownR L [] n = L := by
  apply List.ext_getElem (by simp [ownR])
  intro i h1 h2
  simp [ownR]
theorem fixR_nil (L : List (List Int)) : fixR L [] = L := by
  unfold fixR
  simp [srt, dataR, parR, ownR_nil]
theorem mayB_nil (L : List (List Int)) (n : Nat) (hn : ∀ r ∈ L, r.length = n) : mayB L [] = (decide (4 ≤ L.length) && decide (L.length ≤ 16)) := by
  unfold mayB
  rw [kept_nil, alikeR_of hn]
  simp
theorem fixF_of {L : List (List Int)} {lost : List Int} (hb : ∀ r ∈ L, Bytes r) (hl : ∀ r ∈ L, r.length ≤ 1000000) (h1 : lost.length ≤ 1000000) (h2 : L.length ≤ 1000000) : fixF L lost = if mayB L lost then some (fixR L lost, true) else some ([], false) := by
  unfold fixF
  rw [if_pos ⟨hb, hl, h1, h2⟩]
end Go.Proofs.Ytdbnladpogpiiaa.Co
/-
  What rs.Fix makes: rows that are not lost stay; made again nothing changes; with two rows lost the parities are right.
-/
namespace Go.Proofs.Ytdbnladpogpiiaa.Cw
open Go.RowKit Go.Proofs.YtdbnladpogpiiaaW.PrintWords
open Go.Proofs.Ytdbnladpogpiiaa.PRq Go.Proofs.Ytdbnladpogpiiaa.Fld Go.Proofs.Ytdbnladpogpiiaa.Pl Go.Proofs.Ytdbnladpogpiiaa.Ot Go.Proofs.Ytdbnladpogpiiaa.Tw Go.Proofs.Ytdbnladpogpiiaa.Kp Go.Proofs.Ytdbnladpogpiiaa.Fw Go.Proofs.Ytdbnladpogpiiaa.Co
open Go.Proofs.Ytdbnladpogpiiaa.Base (mulN)
set_option linter.unusedSimpArgs false
set_option linter.unusedVariables false

/-! ### rows that stay -/
theorem parR_len : ∀ (gone : List Nat) (out : List (List Int)) (d n : Nat), (parR out gone d n).length = out.length
  | [], _, _, _ => rfl
  | i :: t, out, d, n => by
    show (parR (if i ≥ d then out.set i _ else out) t d n).length = _
    rw [parR_len t]
    split <;> simp
theorem parR_row : ∀ (gone : List Nat) (out : List (List Int)) (d n j : Nat), j ∉ gone → row (parR out gone d n) j = row out j
  | [], _, _, _, _, _ => rfl
  | i :: t, out, d, n, j, h => by
    rw [List.mem_cons, not_or] at h
    show row (parR (if i ≥ d then out.set i _ else out) t d n) j = _
    rw [parR_row t _ d n j h.2]
    split
    · exact Tw.row_set_ne (Ne.symm h.1) _
    · rfl
theorem dataR_len (out : List (List Int)) (gone : List Nat) (d : Nat) (p q : List Int) : (dataR out gone d p q).length = out.length := by
  unfold dataR
  split
  · rfl
  · split <;> simp
  · split
    · rfl
    · split
      · exact two_len _ _ _ _ _
      · split <;> simp
theorem dataR_row (out : List (List Int)) (gone : List Nat) (d j : Nat) (p q : List Int) (h : j ∉ gone) : row (dataR out gone d p q) j = row out j := by
  unfold dataR
  split
  · rfl
  · simp only [List.mem_singleton] at h
    split
    · rfl
    · exact Tw.row_set_ne (Ne.symm h) _
  · rename_i a b t
    simp only [List.mem_cons, not_or] at h
    split
    · rfl
    · split
      · unfold twoR
        rw [Tw.row_set_ne (Ne.symm h.2.1), Tw.row_set_ne (Ne.symm h.1)]
      · split
        · exact Tw.row_set_ne (Ne.symm h.1) _
        · exact Tw.row_set_ne (Ne.symm h.1) _
theorem srt_mem {lost : List Int} {x : Int} (h2 : lost.length ≤ 2) : x ∈ srt lost ↔ x ∈ lost := by
  match lost, h2 with
  | [], _ => rfl
  | [a], _ => rfl
  | [a, b], _ =>
    unfold srt
    by_cases h : a ≤ b
    · simp [h]
    · simp [h, or_comm]
theorem row_ext {A B : List (List Int)} (h1 : A.length = B.length) (h : ∀ i, i < A.length → row A i = row B i) : A = B := by
  apply List.ext_getElem h1
  intro i h2 h3
  rw [← row_lt h2, ← row_lt h3, h i h2]
theorem ownR_row (L : List (List Int)) (lost : List Int) (n i : Nat) (hi : i < L.length) : row (ownR L lost n) i = if lost.contains (i : Int) then List.replicate n 0 else row L i := by
  rw [row_lt (by rw [own_len]; exact hi), row_lt hi]
  simp only [ownR, List.getElem_mapIdx]
theorem fixR_len (L : List (List Int)) (lost : List Int) : (fixR L lost).length = L.length := by
  unfold fixR
  simp only
  rw [parR_len, dataR_len, own_len]
theorem fixR_row (L : List (List Int)) (lost : List Int) (h2 : lost.length ≤ 2) (i : Nat) (hi : i < L.length) (hc : lost.contains (i : Int) = false) (h0 : ∀ x ∈ lost, 0 ≤ x) : row (fixR L lost) i = row L i := by
  have hn : i ∉ (srt lost).map Int.toNat := by
    intro h
    obtain ⟨x, hx, e⟩ := List.mem_map.1 h
    rw [srt_mem h2] at hx
    have h1 := h0 x hx
    have e2 : x = (i : Int) := by omega
    rw [e2] at hx
    have : lost.contains (i : Int) = true := by simpa using hx
    rw [this] at hc
    cases hc
  unfold fixR
  simp only
  rw [parR_row _ _ _ _ _ hn, dataR_row _ _ _ _ _ _ hn, ownR_row _ _ _ _ hi, hc]
  simp
theorem again (L : List (List Int)) (lost : List Int) (h2 : lost.length ≤ 2) (h0 : ∀ x ∈ lost, 0 ≤ x) : kept (fixR L lost) lost = kept L lost ∧ (∀ n, ownR (fixR L lost) lost n = ownR L lost n) ∧ fixR (fixR L lost) lost = fixR L lost ∧ mayB (fixR L lost) lost = mayB L lost := by
  have hl := fixR_len L lost
  have hr : ∀ i, i < L.length → lost.contains (i : Int) = false → row (fixR L lost) i = row L i := fun i hi hc => fixR_row L lost h2 i hi hc h0
  have hk : kept (fixR L lost) lost = kept L lost := by
    rw [kept_idx, kept_idx, hl]
    apply List.map_congr_left
    intro i hi
    have h3 := idx_lt hi
    unfold idx at hi
    rw [List.mem_filter] at hi
    exact hr i h3 (by simpa using hi.2)
  have ho : ∀ n, ownR (fixR L lost) lost n = ownR L lost n := fun n => by
    refine row_ext (by rw [own_len, own_len, hl]) (fun i hi => ?_)
    rw [own_len, hl] at hi
    rw [ownR_row _ _ _ _ (by rw [hl]; exact hi), ownR_row _ _ _ _ hi]
    split
    · rfl
    · rename_i hc
      exact hr i hi (Bool.eq_false_iff.2 hc)
  refine ⟨hk, ho, ?_, ?_⟩
  · generalize hX : fixR L lost = X at hk ho hl
    unfold fixR
    simp only
    rw [hk, ho, hl]
    rw [← hX]
    unfold fixR
    rfl
  · unfold mayB
    rw [hk, hl]

/-! ### the sums of rows of which one is another -/
theorem xorI_cancel (u p v : Int) : xorI (xorI u p) (xorI u v) = xorI v p := by
  unfold xorI
  simp only [Int.toNat_natCast]
  congr 1
  rw [Nat.xor_comm u.toNat p.toNat, Nat.xor_assoc, ← Nat.xor_assoc u.toNat, Nat.xor_self, Nat.zero_xor, Nat.xor_comm]
theorem pS_set : ∀ (L : List (List Int)) (a : Nat) (r : List Int) (k : Nat), a < L.length → pS (L.set a r) k = xorI (pS L k) (xorI (at_ (row L a) k) (at_ r k))
  | r0 :: L, 0, r, k, _ => by
    simp only [List.set_cons_zero, pS]
    have e : row (r0 :: L) 0 = r0 := rfl
    rw [e, xorI_cancel]
  | r0 :: L, a + 1, r, k, h => by
    simp only [List.set_cons_succ, pS]
    have e : row (r0 :: L) (a + 1) = row L a := rfl
    rw [e, pS_set L a r k (by simpa using h), xorI_assoc]
theorem qS_set : ∀ (L : List (List Int)) (s a : Nat) (r : List Int) (k : Nat), a < L.length → (∀ x ∈ L, Bytes x) → Bytes r → qS s (L.set a r) k = xorI (qS s L k) (mulI (expI (s + a)) (xorI (at_ (row L a) k) (at_ r k)))
  | r0 :: L, s, 0, r, k, _, hL, hr => by
    simp only [List.set_cons_zero, qS]
    have e : row (r0 :: L) 0 = r0 := rfl
    rw [e, mulI_xor (byt_at (hL r0 (by simp)) k) (byt_at hr k), show s + 0 = s from rfl, xorI_cancel]
  | r0 :: L, s, a + 1, r, k, h, hL, hr => by
    simp only [List.set_cons_succ, qS]
    have e : row (r0 :: L) (a + 1) = row L a := rfl
    have e2 : s + 1 + a = s + (a + 1) := by omega
    rw [e, qS_set L (s + 1) a r k (by simpa using h) (fun x hx => hL x (by simp [hx])) hr, xorI_assoc, e2]
theorem addR_at (t x : List Int) (b : Int) (k : Nat) (h1 : k < t.length) (h2 : k < x.length) : at_ (addR t x b) k = xorI (at_ t k) (mulI (at_ x k) b) := by
  rw [at_lt (by rw [addR_len]; exact h1), at_lt h1]
  simp [addR, h2]
theorem mulI_inv {x : Int} (hx : Byt x) (h0 : x ≠ 0) : mulI x (invI x) = 1 := by
  obtain ⟨a, rfl⟩ := Int.eq_ofNat_of_zero_le hx.1
  unfold mulI invI
  have h2 := hx.2
  have := mul_inv (a := a) (by omega) (by intro h; exact h0 (by rw [h]; rfl))
  simp only [Int.ofNat_eq_natCast, Int.toNat_natCast] at *
  rw [this]; rfl
theorem xorI_self_left {x : Int} (y : Int) (h : Byt y) : xorI x (xorI x y) = y := by
  rw [← xorI_assoc, xorI_self, zero_xorI h]
theorem mul_cancel {x y : Int} (hx : Byt x) (hy : Byt y) (h0 : x ≠ 0) : mulI x (mulI y (invI x)) = y := by
  rw [mulI_comm hy (byt_inv hx), ← mulI_assoc hx (byt_inv hx) hy, mulI_inv hx h0, mulI_comm ⟨by omega, by omega⟩ hy, mulI_one hy]
theorem solve_q {x Q w : Int} (hx : Byt x) (h0 : x ≠ 0) (hQ : Byt Q) (hw : Byt w) : xorI Q (mulI x (xorI 0 (xorI 0 (mulI (xorI Q (mulI w 1)) (invI x))))) = w := by
  rw [mulI_one hw, zero_xorI (byt_mul (byt_inv hx)), zero_xorI (byt_mul (byt_inv hx)), mul_cancel hx (byt_xor hQ hw) h0, xorI_self_left _ hw]
theorem solve_p {P v : Int} (hP : Byt P) (hv : Byt v) : xorI P (xorI 0 (xorI 0 (mulI (xorI P (mulI v 1)) 1))) = v := by
  have h1 : Byt 1 := ⟨by omega, by omega⟩
  rw [mulI_one hv, mulI_one (byt_xor hP hv), zero_xorI (byt_xor hP hv), zero_xorI (byt_xor hP hv), xorI_self_left _ hv]
theorem two_p {P p r : Int} (hP : Byt P) (hp : Byt p) (hr : Byt r) : xorI (xorI P (xorI 0 r)) (xorI 0 (xorI (xorI 0 (mulI p 1)) (mulI r 1))) = xorI P p := by
  rw [mulI_one hp, mulI_one hr, zero_xorI hr, zero_xorI hp, zero_xorI (byt_xor hp hr), xorI_comm p r, xorI_assoc, xorI_self_left _ hp]
theorem two_q {x y Q q p : Int} (hx : Byt x) (hy : Byt y) (h0 : xorI x y ≠ 0) (hQ : Byt Q) (hq : Byt q) (hp : Byt p) {r : Int} (hr : r = xorI (xorI 0 (mulI q (invI (xorI x y)))) (mulI p (mulI (invI (xorI x y)) y))) :
    xorI (xorI Q (mulI x (xorI 0 r))) (mulI y (xorI 0 (xorI (xorI 0 (mulI p 1)) (mulI r 1)))) = xorI Q q := by
  have hz := byt_xor hx hy
  have hE := byt_inv hz
  have br : Byt r := by rw [hr]; exact byt_xor (byt_xor byt_zero (byt_mul hE)) (byt_mul (byt_mul hy))
  have e1 : mulI (xorI x y) r = xorI q (mulI y p) := by
    rw [hr, zero_xorI (byt_mul hE), mulI_xor (byt_mul hE) (byt_mul (byt_mul hy)), mul_cancel hz hq h0, mulI_comm hE hy, ← mulI_assoc hp hy hE, mul_cancel hz (byt_mul hy) h0, mulI_comm hp hy]
  have e2 : mulI (xorI x y) r = xorI (mulI x r) (mulI y r) := by
    rw [mulI_comm hz br, mulI_xor hx hy, mulI_comm br hx, mulI_comm br hy]
  rw [mulI_one hp, mulI_one br, zero_xorI br, zero_xorI hp, zero_xorI (byt_xor hp br), mulI_xor hp br, xorI_swap, ← e2, e1, xorI_comm Q (mulI y p), xorI_comm q (mulI y p), xorI_cancel, xorI_comm]
theorem take_set_lt {L : List (List Int)} (i d : Nat) (r : List Int) : (L.set i r).take d = (L.take d).set i r := by
  apply List.ext_getElem (by simp)
  intro j h1 h2
  have hj : j < (L.take d).length := by simpa using h2
  rw [List.getElem_take, List.getElem_set, List.getElem_set]
  split
  · rfl
  · rw [List.getElem_take]
theorem take_set_ge {L : List (List Int)} {i d : Nat} (h : d ≤ i) (r : List Int) : (L.set i r).take d = L.take d := by
  rw [take_set_lt, List.set_eq_of_length_le (by rw [List.length_take]; omega)]
theorem row_take {L : List (List Int)} {i d : Nat} (h : i < d) : row (L.take d) i = row L i := by unfold row; simp [List.getElem?_take, h]
theorem at_zero (n k : Nat) : at_ (List.replicate n 0) k = 0 := by
  unfold at_
  rw [List.getD_eq_getElem?_getD, List.getElem?_replicate]
  split <;> rfl
/-- with two rows lost the parities come out right -/
theorem code_two {R : List (List Int)} {n d a b : Nat} (hR : GoodR n R) (hl : R.length = d + 2) (hab : a < b) (hb : b < d + 2) (h16 : R.length ≤ 16) (za : row R a = List.replicate n 0) (zb : row R b = List.replicate n 0) {X : List (List Int)}
    (hX : X = parR (dataR R [a, b] d (addR (sumP (R.take d) n) (row R d) 1) (addR (sumQ (R.take d) n) (row R (d + 1)) 1)) [a, b] d n) : sumP (X.take d) n = row X d ∧ sumQ (X.take d) n = row X (d + 1) := by
  have gT := good_take (m := d) hR
  have bT : ∀ x ∈ R.take d, Bytes x := fun x hx => (gT x hx).2
  have lT : (R.take d).length = d := by rw [List.length_take]; omega
  obtain ⟨gd1, gd2⟩ := Tw.good_row hR (i := d) (by omega)
  obtain ⟨ge1, ge2⟩ := Tw.good_row hR (i := d + 1) (by omega)
  have hpS : ∀ k, Byt (pS (R.take d) k) := fun k => byt_pS _ k bT
  have hqS : ∀ k, Byt (qS 0 (R.take d) k) := fun k => byt_qS 0 _ k bT
  have pk : ∀ k, k < n → at_ (addR (sumP (R.take d) n) (row R d) 1) k = xorI (pS (R.take d) k) (mulI (at_ (row R d) k) 1) := fun k hk => by
    rw [addR_at _ _ _ _ (by rw [sumP_len]; exact hk) (by rw [gd1]; exact hk), sumP_at _ hk]
  have qk : ∀ k, k < n → at_ (addR (sumQ (R.take d) n) (row R (d + 1)) 1) k = xorI (qS 0 (R.take d) k) (mulI (at_ (row R (d + 1)) k) 1) := fun k hk => by
    rw [addR_at _ _ _ _ (by rw [sumQ_len]; exact hk) (by rw [ge1]; exact hk), sumQ_at _ hk]
  have hpl : (addR (sumP (R.take d) n) (row R d) 1).length = n := by rw [addR_len, sumP_len]
  have hql : (addR (sumQ (R.take d) n) (row R (d + 1)) 1).length = n := by rw [addR_len, sumQ_len]
  have b1 : Byt 1 := ⟨by omega, by omega⟩
  have bp : Bytes (addR (sumP (R.take d) n) (row R d) 1) := bytes_addR (bytes_sumP _ _ bT) gd2 b1
  have bq : Bytes (addR (sumQ (R.take d) n) (row R (d + 1)) 1) := bytes_addR (bytes_sumQ _ _ bT) ge2 b1
  obtain ⟨p, hp⟩ : ∃ p, p = addR (sumP (R.take d) n) (row R d) 1 := ⟨_, rfl⟩
  obtain ⟨q, hq⟩ : ∃ q, q = addR (sumQ (R.take d) n) (row R (d + 1)) 1 := ⟨_, rfl⟩
  rw [← hp] at pk hpl bp hX
  rw [← hq] at qk hql bq hX
  have ex : ∀ i, expI i ≠ 0 := fun i h => pw_ne_zero i (by unfold expI at h; omega)
  by_cases had : d ≤ a
  · obtain rfl : a = d := by omega
    obtain rfl : b = a + 1 := by omega
    have hX2 : X = (R.set a (sumP (R.take a) n)).set (a + 1) (sumQ (R.take a) n) := by
      rw [hX]
      simp [dataR, parR, take_set_ge (Nat.le_refl a)]
    have ht : X.take a = R.take a := by rw [hX2, take_set_ge (by omega), take_set_ge (Nat.le_refl a)]
    rw [ht, hX2]
    refine ⟨?_, ?_⟩
    · rw [Tw.row_set_ne (by omega), Tw.row_set_self (by omega)]
    · rw [Tw.row_set_self (by rw [List.length_set]; omega)]
  · have haT : a < (R.take d).length := by omega
    have raT : row (R.take d) a = List.replicate n 0 := by rw [row_take (by omega)]; exact za
    have raL : (row R a).length = n := by rw [za]; simp
    have raB : Bytes (row R a) := by rw [za]; intro x hx; rw [List.mem_replicate] at hx; rw [hx.2]; exact byt_zero
    by_cases hbd : b < d
    · have hX2 : X = twoR R a b p q := by
        rw [hX]
        simp [dataR, parR, had, hbd, show ¬ d ≤ b from by omega]
      obtain ⟨ra, hra⟩ : ∃ ra, ra = addR (addR (row R a) q (invI (xorI (expI a) (expI b)))) p (mulI (invI (xorI (expI a) (expI b))) (expI b)) := ⟨_, rfl⟩
      obtain ⟨rb, hrb⟩ : ∃ rb, rb = addR (addR (row R b) p 1) ra 1 := ⟨_, rfl⟩
      have hX3 : X = (R.set a ra).set b rb := by rw [hX2, hrb, hra]; rfl
      have bE := byt_inv (byt_xor (byt_exp a) (byt_exp b))
      have rbL : (row R b).length = n := by rw [zb]; simp
      have rbB : Bytes (row R b) := by rw [zb]; intro x hx; rw [List.mem_replicate] at hx; rw [hx.2]; exact byt_zero
      have bra : Bytes ra := by rw [hra]; exact bytes_addR (bytes_addR raB bq bE) bp (byt_mul (byt_exp b))
      have lra : ra.length = n := by rw [hra, addR_len, addR_len, raL]
      have brb : Bytes rb := by rw [hrb]; exact bytes_addR (bytes_addR rbB bp b1) bra b1
      have rk : ∀ k, k < n → at_ ra k = xorI (xorI 0 (mulI (at_ q k) (invI (xorI (expI a) (expI b))))) (mulI (at_ p k) (mulI (invI (xorI (expI a) (expI b))) (expI b))) := fun k hk => by
        rw [hra, addR_at _ _ _ _ (by rw [addR_len, raL]; exact hk) (by rw [hpl]; exact hk), addR_at _ _ _ _ (by rw [raL]; exact hk) (by rw [hql]; exact hk), za, at_zero]
      have sk : ∀ k, k < n → at_ rb k = xorI (xorI 0 (mulI (at_ p k) 1)) (mulI (at_ ra k) 1) := fun k hk => by
        rw [hrb, addR_at _ _ _ _ (by rw [addR_len, rbL]; exact hk) (by rw [lra]; exact hk), addR_at _ _ _ _ (by rw [rbL]; exact hk) (by rw [hpl]; exact hk), zb, at_zero]
      have ht : X.take d = ((R.take d).set a ra).set b rb := by rw [hX3, take_set_lt, take_set_lt]
      have hbT : b < ((R.take d).set a ra).length := by rw [List.length_set]; omega
      have rbT : row ((R.take d).set a ra) b = List.replicate n 0 := by rw [Tw.row_set_ne (by omega), row_take hbd]; exact zb
      have bS : ∀ x ∈ (R.take d).set a ra, Bytes x := by
        intro x hx
        rcases List.mem_or_eq_of_mem_set hx with hx | rfl
        · exact bT x hx
        · exact bra
      have hrd : ∀ j, d ≤ j → row X j = row R j := fun j hj => by rw [hX3, Tw.row_set_ne (by omega), Tw.row_set_ne (by omega)]
      refine ⟨?_, ?_⟩
      · rw [ht, hrd d (Nat.le_refl d)]
        refine ext_at (by rw [sumP_len, gd1]) (fun k hk => ?_)
        rw [sumP_len] at hk
        rw [sumP_at _ hk, pS_set _ b rb k hbT, rbT, at_zero, pS_set _ a ra k haT, raT, at_zero, sk k hk, two_p (hpS k) (byt_at bp k) (byt_at bra k), pk k hk, mulI_one (byt_at gd2 k), xorI_self_left _ (byt_at gd2 k)]
      · rw [ht, hrd (d + 1) (by omega)]
        refine ext_at (by rw [sumQ_len, ge1]) (fun k hk => ?_)
        rw [sumQ_len] at hk
        rw [sumQ_at _ hk, qS_set _ 0 b rb k hbT bS brb, rbT, at_zero, qS_set _ 0 a ra k haT bT bra, raT, at_zero, sk k hk, Nat.zero_add, Nat.zero_add,
          two_q (byt_exp a) (byt_exp b) (Tw.xor_ne (by omega) (by omega) (by omega)) (hqS k) (byt_at bq k) (byt_at bp k) (rk k hk), qk k hk, mulI_one (byt_at ge2 k), xorI_self_left _ (byt_at ge2 k)]
    · by_cases hbe : b = d
      · obtain ⟨ra, hra⟩ : ∃ ra, ra = addR (row R a) q (invI (expI a)) := ⟨_, rfl⟩
        have hX2 : X = (R.set a ra).set d (sumP ((R.set a ra).take d) n) := by
          rw [hX, hra]
          simp [dataR, parR, had, hbe]
        have ht : X.take d = (R.take d).set a ra := by rw [hX2, take_set_ge (Nat.le_refl d), take_set_lt]
        have bra : Bytes ra := by rw [hra]; exact bytes_addR raB bq (byt_inv (byt_exp a))
        refine ⟨?_, ?_⟩
        · rw [ht, hX2, Tw.row_set_self (by rw [List.length_set]; omega), take_set_lt]
        · rw [ht, hX2, Tw.row_set_ne (by omega), Tw.row_set_ne (by omega)]
          refine ext_at (by rw [sumQ_len, ge1]) (fun k hk => ?_)
          rw [sumQ_len] at hk
          rw [sumQ_at _ hk, qS_set _ 0 a ra k haT bT bra, raT, at_zero, hra, addR_at _ _ _ _ (by rw [raL]; exact hk) (by rw [hql]; exact hk), za, at_zero, qk k hk, Nat.zero_add]
          exact solve_q (byt_exp a) (ex a) (hqS k) (byt_at ge2 k)
      · obtain rfl : b = d + 1 := by omega
        obtain ⟨ra, hra⟩ : ∃ ra, ra = addR (row R a) p 1 := ⟨_, rfl⟩
        have hX2 : X = (R.set a ra).set (d + 1) (sumQ ((R.set a ra).take d) n) := by
          rw [hX, hra]
          simp [dataR, parR, had, show ¬ d + 1 < d from by omega]
        have ht : X.take d = (R.take d).set a ra := by rw [hX2, take_set_ge (by omega), take_set_lt]
        refine ⟨?_, ?_⟩
        · rw [ht, hX2, Tw.row_set_ne (by omega), Tw.row_set_ne (by omega)]
          refine ext_at (by rw [sumP_len, gd1]) (fun k hk => ?_)
          rw [sumP_len] at hk
          rw [sumP_at _ hk, pS_set _ a ra k haT, raT, at_zero, hra, addR_at _ _ _ _ (by rw [raL]; exact hk) (by rw [hpl]; exact hk), za, at_zero, pk k hk]
          exact solve_p (hpS k) (byt_at gd2 k)
        · rw [ht, hX2, Tw.row_set_self (by rw [List.length_set]; omega), take_set_lt]
end Go.Proofs.Ytdbnladpogpiiaa.Cw
/-
  Codewords: two that differ in two rows at most are one; a row that is lost comes back.
-/
namespace Go.Proofs.Ytdbnladpogpiiaa.Cd
open Go.RowKit Go.Proofs.YtdbnladpogpiiaaW.PrintWords
open Go.Proofs.Ytdbnladpogpiiaa.PRq Go.Proofs.Ytdbnladpogpiiaa.Fld Go.Proofs.Ytdbnladpogpiiaa.Pl Go.Proofs.Ytdbnladpogpiiaa.Ot Go.Proofs.Ytdbnladpogpiiaa.Tw Go.Proofs.Ytdbnladpogpiiaa.Kp Go.Proofs.Ytdbnladpogpiiaa.Fw Go.Proofs.Ytdbnladpogpiiaa.Co Go.Proofs.Ytdbnladpogpiiaa.Cw
set_option linter.unusedSimpArgs false
set_option linter.unusedVariables false
/-- rows of which the last two are the parities of the others -/
structure Code (A : List (List Int)) (n d : Nat) : Prop where
  good : GoodR n A
  len : A.length = d + 2
  p : sumP (A.take d) n = row A d
  q : sumQ (A.take d) n = row A (d + 1)
theorem xorI_eq {x y : Int} (hx : Byt x) (hy : Byt y) (h : xorI x y = 0) : x = y := by
  have h1 := congrArg (xorI x) h
  rw [xorI_self_left _ hy, xorI_zero hx] at h1
  exact h1.symm
theorem mulI_eq_zero {x y : Int} (hx : Byt x) (hy : Byt y) (h0 : x ≠ 0) (h : mulI x y = 0) : y = 0 := by
  have h1 := congrArg (mulI (invI x)) h
  rw [← mulI_assoc (byt_inv hx) hx hy, mulI_comm (byt_inv hx) hx, mulI_inv hx h0, mulI_zero (byt_inv hx), mulI_comm ⟨by omega, by omega⟩ hy, mulI_one hy] at h1
  exact h1
theorem row_at_ext {A B : List (List Int)} {n i : Nat} (hA : GoodR n A) (hB : GoodR n B) (hi : i < A.length) (hj : i < B.length) (h : ∀ k, k < n → at_ (row A i) k = at_ (row B i) k) : row A i = row B i := by
  have h1 := (Tw.good_row hA hi).1
  have h2 := (Tw.good_row hB hj).1
  exact ext_at (by rw [h1, h2]) (fun k hk => h k (by rw [← h1]; exact hk))
/-- rows that are alike but for one -/
theorem set_of {A B : List (List Int)} {a : Nat} (hl : A.length = B.length) (h : ∀ j, j < A.length → j ≠ a → row A j = row B j) : B = A.set a (row B a) := by
  refine row_ext (by rw [List.length_set, hl]) (fun j hj => ?_)
  by_cases e : j = a
  · subst e
    rw [Tw.row_set_self (by omega)]
  · rw [Tw.row_set_ne (Ne.symm e), h j (by omega) e]
theorem set_of2 {A B : List (List Int)} {a b : Nat} (hab : a ≠ b) (hl : A.length = B.length) (h : ∀ j, j < A.length → j ≠ a → j ≠ b → row A j = row B j) : B = (A.set a (row B a)).set b (row B b) := by
  refine row_ext (by rw [List.length_set, List.length_set, hl]) (fun j hj => ?_)
  by_cases e : j = b
  · subst e
    rw [Tw.row_set_self (by rw [List.length_set]; omega)]
  · rw [Tw.row_set_ne (Ne.symm e)]
    by_cases e2 : j = a
    · subst e2
      rw [Tw.row_set_self (by omega)]
    · rw [Tw.row_set_ne (Ne.symm e2), h j (by omega) e2 e]
theorem uniq {A B : List (List Int)} {n d a b : Nat} (hA : Code A n d) (hB : Code B n d) (h16 : d + 2 ≤ 16) (hab : a < b) (hb : b < d + 2) (h : ∀ j, j < d + 2 → j ≠ a → j ≠ b → row A j = row B j) : A = B := by
  have lA := hA.len
  have lB := hB.len
  have gT := good_take (m := d) hA.good
  have gU := good_take (m := d) hB.good
  have bT : ∀ x ∈ A.take d, Bytes x := fun x hx => (gT x hx).2
  have lT : (A.take d).length = d := by rw [List.length_take]; omega
  have lU : (B.take d).length = d := by rw [List.length_take]; omega
  have byA : ∀ i k, i < d + 2 → Byt (at_ (row A i) k) := fun i k hi => byt_at (Tw.good_row hA.good (by omega)).2 k
  have byB : ∀ i k, i < d + 2 → Byt (at_ (row B i) k) := fun i k hi => byt_at (Tw.good_row hB.good (by omega)).2 k
  have rT : ∀ j, j < d → row (A.take d) j = row A j := fun j hj => row_take hj
  have rU : ∀ j, j < d → row (B.take d) j = row B j := fun j hj => row_take hj
  have pA : ∀ k, k < n → pS (A.take d) k = at_ (row A d) k := fun k hk => by rw [← hA.p, sumP_at _ hk]
  have qA : ∀ k, k < n → qS 0 (A.take d) k = at_ (row A (d + 1)) k := fun k hk => by rw [← hA.q, sumQ_at _ hk]
  have pB : ∀ k, k < n → pS (B.take d) k = at_ (row B d) k := fun k hk => by rw [← hB.p, sumP_at _ hk]
  have qB : ∀ k, k < n → qS 0 (B.take d) k = at_ (row B (d + 1)) k := fun k hk => by rw [← hB.q, sumQ_at _ hk]
  have ex : ∀ i, expI i ≠ 0 := fun i h => pw_ne_zero i (by unfold expI at h; omega)
  -- the data are the same
  have hdata : ∀ j, j < d → row A j = row B j := by
    by_cases had : d ≤ a
    · exact fun j hj => h j (by omega) (by omega) (by omega)
    by_cases hbd : b < d
    · -- both are data
      have hS : B.take d = ((A.take d).set a (row B a)).set b (row B b) := by
        have := set_of2 (A := A.take d) (B := B.take d) (a := a) (b := b) (by omega) (by rw [lT, lU]) (fun j hj h1 h2 => by rw [lT] at hj; rw [rT j hj, rU j hj]; exact h j (by omega) h1 h2)
        rwa [rU a (by omega), rU b hbd] at this
      have bS : ∀ x ∈ (A.take d).set a (row B a), Bytes x := by
        intro x hx
        rcases List.mem_or_eq_of_mem_set hx with hx | rfl
        · exact bT x hx
        · exact (Tw.good_row hB.good (by omega)).2
      have key : ∀ k, k < n → at_ (row A a) k = at_ (row B a) k ∧ at_ (row A b) k = at_ (row B b) k := by
        intro k hk
        have e1 := pB k hk
        have e2 := qB k hk
        have r2 : row ((A.take d).set a (row B a)) b = row A b := by rw [Tw.row_set_ne (by omega), rT b hbd]
        rw [hS, pS_set _ b _ k (by rw [List.length_set, lT]; exact hbd), r2, pS_set _ a _ k (by rw [lT]; omega), rT a (by omega), pA k hk, ← h d (by omega) (by omega) (by omega)] at e1
        rw [hS, qS_set _ 0 b _ k (by rw [List.length_set, lT]; exact hbd) bS (Tw.good_row hB.good (by omega)).2, r2, qS_set _ 0 a _ k (by rw [lT]; omega) bT (Tw.good_row hB.good (by omega)).2, rT a (by omega), qA k hk, ← h (d + 1) (by omega) (by omega) (by omega), Nat.zero_add, Nat.zero_add] at e2
        have bd := byA d k (by omega)
        have be := byA (d + 1) k (by omega)
        have u1 := byt_xor (byA a k (by omega)) (byB a k (by omega))
        have u2 := byt_xor (byA b k (by omega)) (byB b k (by omega))
        generalize hu : xorI (at_ (row A a) k) (at_ (row B a) k) = u at e1 e2 u1
        generalize hv : xorI (at_ (row A b) k) (at_ (row B b) k) = v at e1 e2 u2
        have f1 : xorI u v = 0 := by
          have := congrArg (xorI (at_ (row A d) k)) e1
          rwa [xorI_self, xorI_assoc, xorI_self_left _ (byt_xor u1 u2)] at this
        have f2 : xorI (mulI (expI a) u) (mulI (expI b) v) = 0 := by
          have := congrArg (xorI (at_ (row A (d + 1)) k)) e2
          rwa [xorI_self, xorI_assoc, xorI_self_left _ (byt_xor (byt_mul u1) (byt_mul u2))] at this
        have f3 := xorI_eq u1 u2 f1
        rw [← f3] at f2
        have f4 : mulI (xorI (expI a) (expI b)) u = 0 := by
          rw [mulI_comm (byt_xor (byt_exp a) (byt_exp b)) u1, mulI_xor (byt_exp a) (byt_exp b), mulI_comm u1 (byt_exp a), mulI_comm u1 (byt_exp b)]
          exact f2
        have f5 := mulI_eq_zero (byt_xor (byt_exp a) (byt_exp b)) u1 (Tw.xor_ne (by omega) (by omega) (by omega)) f4
        rw [← f3, f5] at hv
        rw [f5] at hu
        exact ⟨xorI_eq (byA a k (by omega)) (byB a k (by omega)) hu, xorI_eq (byA b k (by omega)) (byB b k (by omega)) hv⟩
      intro j hj
      by_cases ja : j = a
      · subst ja
        exact row_at_ext hA.good hB.good (by omega) (by omega) (fun k hk => (key k hk).1)
      · by_cases jb : j = b
        · subst jb
          exact row_at_ext hA.good hB.good (by omega) (by omega) (fun k hk => (key k hk).2)
        · exact h j (by omega) ja jb
    · -- one is data
      have hS : B.take d = (A.take d).set a (row B a) := by
        have := set_of (A := A.take d) (B := B.take d) (a := a) (by rw [lT, lU]) (fun j hj h1 => by rw [lT] at hj; rw [rT j hj, rU j hj]; exact h j (by omega) h1 (by omega))
        rwa [rU a (by omega)] at this
      have key : ∀ k, k < n → at_ (row A a) k = at_ (row B a) k := by
        intro k hk
        have u1 := byt_xor (byA a k (by omega)) (byB a k (by omega))
        by_cases hbe : b = d
        · have e2 := qB k hk
          rw [hS, qS_set _ 0 a _ k (by rw [lT]; omega) bT (Tw.good_row hB.good (by omega)).2, rT a (by omega), qA k hk, ← h (d + 1) (by omega) (by omega) (by omega), Nat.zero_add] at e2
          have f2 : mulI (expI a) (xorI (at_ (row A a) k) (at_ (row B a) k)) = 0 := by
            have := congrArg (xorI (at_ (row A (d + 1)) k)) e2
            rwa [xorI_self, xorI_self_left _ (byt_mul u1)] at this
          exact xorI_eq (byA a k (by omega)) (byB a k (by omega)) (mulI_eq_zero (byt_exp a) u1 (ex a) f2)
        · have e1 := pB k hk
          rw [hS, pS_set _ a _ k (by rw [lT]; omega), rT a (by omega), pA k hk, ← h d (by omega) (by omega) (by omega)] at e1
          have f1 : xorI (at_ (row A a) k) (at_ (row B a) k) = 0 := by
            have := congrArg (xorI (at_ (row A d) k)) e1
            rwa [xorI_self, xorI_self_left _ u1] at this
          exact xorI_eq (byA a k (by omega)) (byB a k (by omega)) f1
      intro j hj
      by_cases ja : j = a
      · subst ja
        exact row_at_ext hA.good hB.good (by omega) (by omega) key
      · exact h j (by omega) ja (by omega)
  have htk : A.take d = B.take d := row_ext (by rw [lT, lU]) (fun j hj => by rw [lT] at hj; rw [rT j hj, rU j hj]; exact hdata j hj)
  refine row_ext (by rw [lA, lB]) (fun j hj => ?_)
  by_cases h1 : j < d
  · exact hdata j h1
  · by_cases h2 : j = d
    · subst h2; rw [← hA.p, ← hB.p, htk]
    · obtain rfl : j = d + 1 := by omega
      rw [← hA.q, ← hB.q, htk]
end Go.Proofs.Ytdbnladpogpiiaa.Cd
/-
  ramekinlaw4.Places, plainly: so many places at most, each its own, all within.
-/
namespace Go.Proofs.Ytdbnladpogpiiaa.Pc
open Go.RowKit Go.Proofs.YtdbnladpogpiiaaW.PrintWords
open Go.Proofs.Ytdbnladpogpiiaa.PRq Go.Proofs.Ytdbnladpogpiiaa.Fld Go.Proofs.Ytdbnladpogpiiaa.Pl
set_option linter.unusedSimpArgs false
set_option linter.unusedVariables false
theorem within4_f (a n : Int) (hn : 1 ≤ n) (hn2 : n ≤ 4611686018427387904) : ramekinlaw4_within.f a n = some (a % n) := by
  have hk := tmod_within a n hn
  have h2 := Int.emod_nonneg a (b := n) (by omega)
  have h3 := Int.emod_lt_of_pos a (b := n) (by omega)
  unfold ramekinlaw4_within.f
  rw [if_neg (by omega)]
  by_cases h : Int.tmod a n < 0
  · rw [if_pos h] at hk ⊢
    rw [w64 (by omega) (by omega), hk]
  · rw [if_neg h] at hk ⊢
    rw [hk]
theorem places_l1 (x0 : List Int) (m lim : Int) (x7 : List Int) (x8 t : Int) (hl : x7.length ≤ 1000000) (R : List Int)
    (h : Ev (fun k => if x7.contains t = true then ramekinlaw4_Places.l0 k x0 m lim x7 (wrap64 (x8 + 1)) else ramekinlaw4_Places.l0 k x0 m lim (x7 ++ [t]) (wrap64 (x8 + 1))) R) :
    ∀ d i (b : Bool), x7.length - i = d → i ≤ x7.length → (b = (x7.take i).contains t) → Ev (fun k => ramekinlaw4_Places.l1 k x0 m lim x7 x8 t b (i : Int)) R
  | 0, i, b, hd, hi, hb => by
    obtain rfl : i = x7.length := by omega
    rw [List.take_length] at hb
    refine Ev.step (fun k => ?_) h
    rw [ramekinlaw4_Places.l1, if_neg (by omega), hb]
    by_cases hc : x7.contains t = true
    · rw [if_pos hc, if_pos hc]
    · rw [if_neg hc, if_neg hc, if_pos (by omega)]
  | d + 1, i, b, hd, hi, hb => by
    have hil : i < x7.length := by omega
    have hrd : rd x7 (i : Int) = x7[i] := by rw [rd_nat, at_lt hil]
    have htk : (x7.take (i + 1)).contains t = ((x7.take i).contains t || (t == x7[i])) := by
      rw [List.take_succ_eq_append_getElem hil, List.contains_append]
      rw [List.contains_cons, List.contains_nil, Bool.or_false]
    refine Ev.step (fun k => ?_) (places_l1 x0 m lim x7 x8 t hl R h d (i + 1) ((x7.take (i + 1)).contains t) (by omega) (by omega) rfl)
    rw [ramekinlaw4_Places.l1, if_pos (by omega), w64 (n := (i : Int) + 1) (by omega) (by omega)]
    by_cases hc : b = true
    · rw [if_pos hc, htk, ← hb, hc]
      rfl
    · rw [if_neg hc, if_pos (by omega), hrd, htk, ← hb, Bool.eq_false_iff.2 hc, Bool.false_or, Bool.beq_comm]
      rfl
/-- what Places answers -/
def Ok (lim m : Nat) (P : List Int) : Prop := P.length ≤ lim ∧ (∀ i ∈ P, 0 ≤ i ∧ i < (m : Int)) ∧ P.Nodup
theorem places_l0 (l3 : List Int) (m lim : Nat) (hm : 1 ≤ m) (hm2 : m ≤ 1000000) (hlim : lim ≤ 1000) (hl : l3.length ≤ 9223372036854775807) : ∀ d i (x7 : List Int), l3.length - i = d → i ≤ l3.length → Ok lim m x7 → ∃ P, Ev (fun k => ramekinlaw4_Places.l0 k l3 (m : Int) (lim : Int) x7 (i : Int)) P ∧ Ok lim m P
  | 0, i, x7, hd, hi, hok => by
    obtain rfl : i = l3.length := by omega
    refine ⟨x7, Ev.step (f := fun k => ramekinlaw4_Places.j1 k l3 (m : Int) (lim : Int) x7 (l3.length : Int) false) (fun k => ?_) (Ev.step (f := fun _ => some x7) (fun k => ?_) (Ev.now _)), hok⟩
    · rw [ramekinlaw4_Places.l0, if_neg (by omega)]
    · rw [ramekinlaw4_Places.j1, if_neg (by simp)]
  | d + 1, i, x7, hd, hi, hok => by
    have hil : i < l3.length := by omega
    by_cases hfull : x7.length < lim
    · obtain ⟨t, ht⟩ : ∃ t, t = rd l3 (i : Int) % (m : Int) := ⟨_, rfl⟩
      have t1 := Int.emod_nonneg (rd l3 (i : Int)) (b := (m : Int)) (by omega)
      have t2 := Int.emod_lt_of_pos (rd l3 (i : Int)) (b := (m : Int)) (by omega)
      rw [← ht] at t1 t2
      have e1 : wrap64 ((i : Int) + 1) = ((i + 1 : Nat) : Int) := by rw [w64 (by omega) (by omega)]; rfl
      have go : ∀ P, Ev (fun k => if x7.contains t = true then ramekinlaw4_Places.l0 k l3 (m : Int) (lim : Int) x7 ((i + 1 : Nat) : Int) else ramekinlaw4_Places.l0 k l3 (m : Int) (lim : Int) (x7 ++ [t]) ((i + 1 : Nat) : Int)) P → Ev (fun k => ramekinlaw4_Places.l0 k l3 (m : Int) (lim : Int) x7 (i : Int)) P := fun P hP => by
        refine Ev.step (f := fun k => ramekinlaw4_Places.j1 k l3 (m : Int) (lim : Int) x7 (i : Int) true) (fun k => ?_) (Ev.step (f := fun k => ramekinlaw4_Places.l1 k l3 (m : Int) (lim : Int) x7 (i : Int) t false ((0 : Nat) : Int)) (fun k => ?_) ?_)
        · rw [ramekinlaw4_Places.l0, if_pos (by omega), decide_eq_true (by omega)]
        · rw [ramekinlaw4_Places.j1, if_pos rfl, if_pos (by omega), if_pos (by omega), within4_f _ _ (by omega) (by omega), ← ht]
          rfl
        · exact places_l1 l3 (m : Int) (lim : Int) x7 (i : Int) t (by omega) P (by rw [e1]; exact hP) x7.length 0 false (by omega) (by omega) (by simp)
      by_cases hc : x7.contains t = true
      · obtain ⟨P, h1, h2⟩ := places_l0 l3 m lim hm hm2 hlim hl d (i + 1) x7 (by omega) (by omega) hok
        exact ⟨P, go P (Ev.congr (fun k => by rw [if_pos hc]) h1), h2⟩
      · have hok2 : Ok lim m (x7 ++ [t]) := by
          refine ⟨by simp; omega, fun j hj => ?_, ?_⟩
          · rcases List.mem_append.1 hj with hj | hj
            · exact hok.2.1 j hj
            · rw [List.mem_singleton.1 hj]; exact ⟨t1, t2⟩
          · rw [List.nodup_append]
            refine ⟨hok.2.2, by simp, ?_⟩
            rintro a ha b hb rfl
            rw [List.mem_singleton.1 hb] at ha
            exact hc (by simpa using ha)
        obtain ⟨P, h1, h2⟩ := places_l0 l3 m lim hm hm2 hlim hl d (i + 1) (x7 ++ [t]) (by omega) (by omega) hok2
        exact ⟨P, go P (Ev.congr (fun k => by rw [if_neg hc]) h1), h2⟩
    · refine ⟨x7, Ev.step (f := fun k => ramekinlaw4_Places.j1 k l3 (m : Int) (lim : Int) x7 (i : Int) false) (fun k => ?_) (Ev.step (f := fun _ => some x7) (fun k => ?_) (Ev.now _)), hok⟩
      · rw [ramekinlaw4_Places.l0, if_pos (by omega), decide_eq_false (by omega)]
      · rw [ramekinlaw4_Places.j1, if_neg (by simp)]
theorem places_ev (l3 : List Int) (m lim : Nat) (hm : 1 ≤ m) (hm2 : m ≤ 1000000) (hlim : lim ≤ 1000) (hl : l3.length ≤ 9223372036854775807) : ∃ P, Ev (fun k => ramekinlaw4_Places.f k l3 (m : Int) (lim : Int)) P ∧ Ok lim m P :=
  places_l0 l3 m lim hm hm2 hlim hl l3.length 0 [] (by omega) (by omega) ⟨by simp, by simp, by simp⟩
end Go.Proofs.Ytdbnladpogpiiaa.Pc
/-
  The document's parities (ramekinref5.Parity), plainly; one row made again.
-/
namespace Go.Proofs.Ytdbnladpogpiiaa.Rp
open Go.RowKit Go.Proofs.YtdbnladpogpiiaaW.PrintWords
open Go.Proofs.Ytdbnladpogpiiaa.Fld Go.Proofs.Ytdbnladpogpiiaa.Pl Go.Proofs.Ytdbnladpogpiiaa.Ot Go.Proofs.Ytdbnladpogpiiaa.Tw Go.Proofs.Ytdbnladpogpiiaa.Kp Go.Proofs.Ytdbnladpogpiiaa.Fw Go.Proofs.Ytdbnladpogpiiaa.Co Go.Proofs.Ytdbnladpogpiiaa.Cw Go.Proofs.Ytdbnladpogpiiaa.Cd
set_option linter.unusedSimpArgs false
set_option linter.unusedVariables false
theorem even_l0 (L : List (List Int)) (hm : L.length ≤ 1000000) (h0 : 0 < L.length) : ∀ d i : Nat, L.length - i = d → i ≤ L.length → Ev (fun k => PRq.ramekinref5_even.l0 k L (i : Int)) ((L.drop i).all fun r => r.length == (row L 0).length)
  | 0, i, hd, hi => by
    obtain rfl : i = L.length := by omega
    refine Ev.step (f := fun _ => some true) (fun k => ?_) ?_
    · rw [PRq.ramekinref5_even.l0, if_neg (by omega)]
    · rw [List.drop_length]; exact Ev.now _
  | d + 1, i, hd, hi => by
    have hil : i < L.length := by omega
    have hdr : L.drop i = L[i] :: L.drop (i + 1) := List.drop_eq_getElem_cons hil
    have hr0 : PRq.rd_L1 L 0 = row L 0 := by unfold PRq.rd_L1 row; simp
    by_cases h : (L[i].length : Int) = ((row L 0).length : Int)
    · refine Ev.step (f := fun k => PRq.ramekinref5_even.l0 k L ((i + 1 : Nat) : Int)) (fun k => ?_) ?_
      · rw [PRq.ramekinref5_even.l0, if_pos (by omega), if_pos (by omega), if_pos (by omega), rdL_nat, row_lt hil, hr0, if_pos h, w64 (by omega) (by omega)]; rfl
      · have := even_l0 L hm h0 d (i + 1) (by omega) (by omega)
        rw [hdr, List.all_cons, show (L[i].length == (row L 0).length) = true from by rw [beq_iff_eq]; omega, Bool.true_and]
        exact this
    · refine Ev.step (f := fun _ => some false) (fun k => ?_) ?_
      · rw [PRq.ramekinref5_even.l0, if_pos (by omega), if_pos (by omega), if_pos (by omega), rdL_nat, row_lt hil, hr0, if_neg h]
      · rw [hdr, List.all_cons, show (L[i].length == (row L 0).length) = false from by rw [beq_eq_false_iff_ne]; omega, Bool.false_and]
        exact Ev.now _
theorem even_ok (L : List (List Int)) (n a b : Nat) (hn : ∀ r ∈ L, r.length = n) (h1 : 1 ≤ a) (ha : a ≤ L.length) (hb : L.length ≤ b) (hm : L.length ≤ 1000000) : PRr.ramekinref5_even.f L (a : Int) (b : Int) = some true := by
  refine Lim.lim_ev (fun k => PRq.ramekinref5_even.mono _ _ _ k) ?_
  refine Ev.congr (f := fun k => PRq.ramekinref5_even.j0 k L false) (fun k => ?_) (Ev.step (f := fun k => PRq.ramekinref5_even.l0 k L ((1 : Nat) : Int)) (fun k => ?_) ?_)
  · rw [PRq.ramekinref5_even.f, if_neg (by omega), decide_eq_false (by omega)]
  · rw [PRq.ramekinref5_even.j0, if_neg (by simp)]; rfl
  · have := even_l0 L hm (by omega) (L.length - 1) 1 (by omega) (by omega)
    have e : ((L.drop 1).all fun r => r.length == (row L 0).length) = true := by
      rw [List.all_eq_true]
      intro r hr
      rw [beq_iff_eq, hn r (List.mem_of_mem_drop hr), row_lt (by omega), hn _ (List.getElem_mem _)]
    rw [e] at this
    exact this
theorem rmul {x y : Int} (hx : Byt x) (hy : Byt y) : PRr.ramekinref2_Mul.f x y = some (mulI x y) := Lim.lim_ev (fun k => PRq.ramekinref2_Mul.mono _ _ k) (refmul_ev hx hy)
theorem rexp (n : Nat) (hn : n < 255) : PRr.ramekinref2_Exp.f (n : Int) = some (expI n) := Lim.lim_ev (fun k => PRq.ramekinref2_Exp.mono _ k) (refexp_ev n hn)
theorem par_l1 (L : List (List Int)) (i : Nat) (r : List Int) (b : Int) (p q : List Int) (hi : i < L.length) (hr : row L i = r) (hp : p.length = r.length) (hq : q.length = r.length) (hlen : r.length ≤ 281474976710656) (hb : Byt b) (bp : Bytes p) (bq : Bytes q) (br : Bytes r) (R : List Int × List Int)
    (h : Ev (fun k => PRr.ramekinref5_Parity.l0 k L (Pl.part p r none r.length) (Pl.part q r (some b) r.length) ((i : Int) + 1)) R) (hi2 : i < 1000000) :
    ∀ d j : Nat, r.length - j = d → j ≤ r.length → Ev (fun k => PRr.ramekinref5_Parity.l1 k L (Pl.part p r none j) (Pl.part q r (some b) j) (i : Int) b (j : Int)) R
  | 0, j, hd, hj => by
    obtain rfl : j = r.length := by omega
    have hr2 : PRr.rd_L2 L (i : Int) = r := by rw [← hr]; unfold PRr.rd_L2 row; simp
    refine Ev.step (f := fun k => PRr.ramekinref5_Parity.l0 k L (Pl.part p r none r.length) (Pl.part q r (some b) r.length) ((i : Int) + 1)) (fun k => ?_) h
    rw [PRr.ramekinref5_Parity.l1, if_pos (by omega), if_pos (by omega), hr2, if_neg (by omega), w64 (by omega) (by omega)]
  | d + 1, j, hd, hj => by
    have hjr : j < r.length := by omega
    have hr2 : PRr.rd_L2 L (i : Int) = r := by rw [← hr]; unfold PRr.rd_L2 row; simp
    refine Ev.step (f := fun k => PRr.ramekinref5_Parity.l1 k L (Pl.part p r none (j + 1)) (Pl.part q r (some b) (j + 1)) (i : Int) b ((j + 1 : Nat) : Int)) (fun k => ?_) (par_l1 L i r b p q hi hr hp hq hlen hb bp bq br R h hi2 d (j + 1) (by omega) (by omega))
    have e1 : at_ (Pl.part p r none j) j = at_ p j := by rw [part_at _ _ _ _ _ (by omega), if_neg (by omega)]
    have e2 : at_ (Pl.part q r (some b) j) j = at_ q j := by rw [part_at _ _ _ _ _ (by omega), if_neg (by omega)]
    have e3 := part_set p r none j (by omega)
    have e4 := part_set q r (some b) j (by omega)
    have t3 : term r none j = at_ r j := rfl
    have t4 : term r (some b) j = mulI b (at_ r j) := rfl
    rw [t3] at e3
    rw [t4] at e4
    rw [PRr.ramekinref5_Parity.l1, if_pos (by omega), if_pos (by omega), hr2, if_pos (by omega), if_pos (by omega), if_pos (by rw [part_len]; omega), if_pos (by rw [part_len]; omega), w64 (by omega) (by omega)]
    simp only [rd_nat, e1, e2, Int.toNat_natCast]
    rw [rmul hb (byt_at br j)]
    simp only [Option.bind_some]
    rw [xor_u8 (byt_at bp j) (byt_at br j), xor_u8 (byt_at bq j) (byt_mul (byt_at br j)), e3, e4]
    rfl
theorem par_l0 (L : List (List Int)) (n : Nat) (hn : ∀ r ∈ L, r.length = n) (hL : ∀ r ∈ L, Bytes r) (h254 : L.length ≤ 254) (hn2 : n ≤ 281474976710656) :
    ∀ d i, L.length - i = d → i ≤ L.length → Ev (fun k => PRr.ramekinref5_Parity.l0 k L (sumP (L.take i) n) (sumQ (L.take i) n) (i : Int)) (sumP L n, sumQ L n)
  | 0, i, hd, hi => by
    obtain rfl : i = L.length := by omega
    refine Ev.step (f := fun _ => some (sumP L n, sumQ L n)) (fun k => ?_) (Ev.now _)
    rw [PRr.ramekinref5_Parity.l0, if_neg (by omega), List.take_length]
  | d + 1, i, hd, hi => by
    have hiL : i < L.length := by omega
    have hm : L[i] ∈ L := List.getElem_mem hiL
    have htk : ∀ r ∈ L.take i, Bytes r := fun r hr => hL r (List.mem_of_mem_take hr)
    refine Ev.step (f := fun k => PRr.ramekinref5_Parity.l1 k L (sumP (L.take i) n) (sumQ (L.take i) n) (i : Int) (expI i) 0) (fun k => ?_) ?_
    · rw [PRr.ramekinref5_Parity.l0, if_pos (by omega), rexp i (by omega)]
      rfl
    · have h1 := par_l1 L i L[i] (expI i) (sumP (L.take i) n) (sumQ (L.take i) n) hiL (row_lt hiL) (by rw [sumP_len, hn _ hm]) (by rw [sumQ_len, hn _ hm]) (by rw [hn _ hm]; exact hn2) (byt_exp i) (bytes_sumP _ _ htk) (bytes_sumQ _ _ htk) (hL _ hm) (sumP L n, sumQ L n) ?_ (by omega) L[i].length 0 (by omega) (by omega)
      · simpa [part_zero] using h1
      · have := par_l0 L n hn hL h254 hn2 d (i + 1) (by omega) (by omega)
        have e1 : Pl.part (sumP (L.take i) n) L[i] none L[i].length = sumP (L.take (i + 1)) n := by
          refine ext_at (by rw [part_len, sumP_len, sumP_len]) (fun k hk => ?_)
          rw [part_len, sumP_len] at hk
          rw [part_at _ _ _ _ _ (by rw [sumP_len]; exact hk), if_pos (by rw [hn _ hm]; exact hk), sumP_at _ hk, sumP_at _ hk, List.take_succ_eq_append_getElem hiL, pS_snoc _ _ _ htk (hL _ hm)]
          rfl
        have e2 : Pl.part (sumQ (L.take i) n) L[i] (some (expI i)) L[i].length = sumQ (L.take (i + 1)) n := by
          refine ext_at (by rw [part_len, sumQ_len, sumQ_len]) (fun k hk => ?_)
          rw [part_len, sumQ_len] at hk
          rw [part_at _ _ _ _ _ (by rw [sumQ_len]; exact hk), if_pos (by rw [hn _ hm]; exact hk), sumQ_at _ hk, sumQ_at _ hk, List.take_succ_eq_append_getElem hiL, qS_snoc _ _ _ _ htk (hL _ hm)]
          have : (L.take i).length = i := by simp; omega
          rw [this, Nat.zero_add]
          rfl
        rw [e1, e2]
        simpa using this
theorem refpar_ev (L : List (List Int)) (n : Nat) (hn : ∀ r ∈ L, r.length = n) (hL : ∀ r ∈ L, Bytes r) (h2 : 2 ≤ L.length) (h14 : L.length ≤ 14) (hn2 : n ≤ 281474976710656) : Ev (fun k => PRr.ramekinref5_Parity.f k L) (sumP L n, sumQ L n) := by
  have hr0 : PRr.rd_L2 L 0 = row L 0 := by unfold PRr.rd_L2 row; simp
  have hl0 : (row L 0).length = n := by rw [row_lt (by omega)]; exact hn _ (List.getElem_mem _)
  refine Ev.congr (f := fun k => PRr.ramekinref5_Parity.l0 k L (sumP (L.take 0) n) (sumQ (L.take 0) n) ((0 : Nat) : Int)) (fun k => ?_) (par_l0 L n hn hL (by omega) hn2 L.length 0 (by omega) (by omega))
  have he := even_ok L n 2 14 hn (by omega) (by omega) (by omega) (by omega)
  rw [PRr.ramekinref5_Parity.f, show (2 : Int) = ((2 : Nat) : Int) from rfl, show (14 : Int) = ((14 : Nat) : Int) from rfl, he]
  simp only [Option.bind_some, ↓reduceIte]
  rw [if_pos (by omega), hr0, hl0, if_pos (by omega), if_pos (by simpa using hn2)]
  simp only [Int.toNat_natCast, List.take_zero]
  rw [← rep_zero, ← rep_zero']
  rfl
/-- rows made again are bytes, of one length -/
theorem good_fix1 {L : List (List Int)} {lost : List Int} {s : Nat} (hL : Tw.GoodR s L) (hm : mayB L lost = true) (hk : lenR (kept L lost) = s) : Tw.GoodR s (fixR L lost) := by
  obtain ⟨m1, m2, m3, m4, m5, m6⟩ := may_facts hm
  have hkl := kept_len m6
  rw [hk] at hkl
  have hg : Tw.GoodR s (ownR L lost s) := own_good (fun r hr => (hL r hr).2) hkl
  have hol := own_len L lost s
  have b1 : Byt 1 := ⟨by omega, by omega⟩
  obtain ⟨d, hd⟩ : ∃ d, L.length = d + 2 := ⟨L.length - 2, by omega⟩
  have e : L.length - 2 = d := by omega
  unfold fixR
  simp only
  rw [hk, e]
  generalize ownR L lost s = R at hg hol
  have gT := good_take (m := d) hg
  have bT : ∀ x ∈ R.take d, Bytes x := fun x hx => (gT x hx).2
  have hp := Tw.good_add (n := s) (a := sumP (R.take d) s) ⟨sumP_len _ _, bytes_sumP _ _ bT⟩ (Tw.good_row hg (i := d) (by omega)).2 b1
  have hq := Tw.good_add (n := s) (a := sumQ (R.take d) s) ⟨sumQ_len _ _, bytes_sumQ _ _ bT⟩ (Tw.good_row hg (i := d + 1) (by omega)).2 b1
  generalize addR (sumP (R.take d) s) (row R d) 1 = p at hp
  generalize addR (sumQ (R.take d) s) (row R (d + 1)) 1 = q at hq
  have par : ∀ (gone : List Nat) (X : List (List Int)), Tw.GoodR s X → Tw.GoodR s (parR X gone d s) := by
    intro gone
    induction gone with
    | nil => intro X hX; exact hX
    | cons i t ih =>
      intro X hX
      show Tw.GoodR s (parR (if i ≥ d then X.set i _ else X) t d s)
      apply ih
      have gX := good_take (m := d) hX
      split
      · refine Tw.good_set hX ?_
        split
        · exact ⟨sumP_len _ _, bytes_sumP _ _ (fun x hx => (gX x hx).2)⟩
        · exact ⟨sumQ_len _ _, bytes_sumQ _ _ (fun x hx => (gX x hx).2)⟩
      · exact hX
  apply par
  rcases gone_of m3 m4 m5 with h | ⟨a, h, ha⟩ | ⟨a, b, h, hab, hb⟩
  · rw [h]; exact hg
  · rw [h]
    have hra := Tw.good_row hg (i := a) (by omega)
    simp only [List.map_cons, List.map_nil, Int.toNat_natCast, dataR]
    split
    · exact hg
    · exact Tw.good_set hg (Tw.good_add hra hp.2 b1)
  · rw [h]
    have hra := Tw.good_row hg (i := a) (by omega)
    simp only [List.map_cons, List.map_nil, Int.toNat_natCast, dataR]
    split
    · exact hg
    · split
      · exact good_two hg (by omega) (by omega) hp hq
      · split
        · exact Tw.good_set hg (Tw.good_add hra hq.2 (byt_inv (byt_exp a)))
        · exact Tw.good_set hg (Tw.good_add hra hp.2 b1)
end Go.Proofs.Ytdbnladpogpiiaa.Rp
/-
  Rows with their parities: what is lost of them, one row or two, is made again.
-/
namespace Go.Proofs.Ytdbnladpogpiiaa.Rf
open Go.RowKit Go.Proofs.YtdbnladpogpiiaaW.PrintWords
open Go.Proofs.Ytdbnladpogpiiaa.Fld Go.Proofs.Ytdbnladpogpiiaa.Pl Go.Proofs.Ytdbnladpogpiiaa.Ot Go.Proofs.Ytdbnladpogpiiaa.Kp Go.Proofs.Ytdbnladpogpiiaa.Fw Go.Proofs.Ytdbnladpogpiiaa.Co Go.Proofs.Ytdbnladpogpiiaa.Cw Go.Proofs.Ytdbnladpogpiiaa.Cd Go.Proofs.Ytdbnladpogpiiaa.Pc
set_option linter.unusedSimpArgs false
set_option linter.unusedVariables false
theorem code_of {L : List (List Int)} {n : Nat} (hL : Tw.GoodR n L) : Cd.Code (L ++ [sumP L n, sumQ L n]) n L.length := by
  have hb : ∀ x ∈ L, Bytes x := fun x hx => (hL x hx).2
  refine ⟨fun r hr => ?_, by simp, ?_, ?_⟩
  · rcases List.mem_append.1 hr with hr | hr
    · exact hL r hr
    · simp only [List.mem_cons, List.not_mem_nil, or_false] at hr
      rcases hr with rfl | rfl
      · exact ⟨sumP_len _ _, bytes_sumP _ _ hb⟩
      · exact ⟨sumQ_len _ _, bytes_sumQ _ _ hb⟩
  · rw [List.take_left]
    unfold row
    simp
  · rw [List.take_left]
    unfold row
    simp
theorem row_self {A : List (List Int)} {i : Nat} (hi : i < A.length) : A.set i (row A i) = A := by
  refine row_ext (by simp) (fun j hj => ?_)
  by_cases e : i = j
  · subst e; exact Tw.row_set_self hi _
  · exact Tw.row_set_ne e _
/-- one row made again -/
theorem fix_one {A : List (List Int)} {n d i : Nat} (hA : Cd.Code A n d) (hi : i < d + 2) (hk : lenR (kept A [(i : Int)]) = n) : fixR A [(i : Int)] = A := by
  have lA := hA.len
  have hR : ownR A [(i : Int)] n = A.set i (List.replicate n 0) := by
    refine row_ext (by rw [own_len, List.length_set]) (fun j hj => ?_)
    rw [own_len] at hj
    rw [ownR_row _ _ _ _ hj]
    by_cases e : i = j
    · subst e
      rw [Tw.row_set_self hj]
      simp
    · rw [Tw.row_set_ne e, if_neg (by simp; omega)]
  have e : A.length - 2 = d := by omega
  have ai := Tw.good_row hA.good (i := i) (by omega)
  unfold fixR
  simp only
  rw [hk, e, hR]
  simp only [srt, List.map_cons, List.map_nil, Int.toNat_natCast, dataR]
  by_cases hid : d ≤ i
  · rw [if_pos hid]
    have ht : (A.set i (List.replicate n 0)).take d = A.take d := take_set_ge hid _
    simp only [parR, List.foldl_cons, List.foldl_nil]
    rw [if_pos hid, ht, List.set_set]
    by_cases h2 : i = d
    · subst h2
      rw [if_pos rfl, hA.p]
      exact row_self (by omega)
    · obtain rfl : i = d + 1 := by omega
      rw [if_neg h2, hA.q]
      exact row_self (by omega)
  · rw [if_neg hid]
    simp only [parR, List.foldl_cons, List.foldl_nil]
    rw [if_neg hid, List.set_set, Tw.row_set_self (by omega), Tw.row_set_ne (by omega), take_set_lt]
    have gT := good_take (m := d) hA.good
    have bT : ∀ x ∈ A.take d, Bytes x := fun x hx => (gT x hx).2
    have lT : (A.take d).length = d := by rw [List.length_take]; omega
    have gd := Tw.good_row hA.good (i := d) (by omega)
    have key : addR (List.replicate n 0) (addR (sumP ((A.take d).set i (List.replicate n 0)) n) (row A d) 1) 1 = row A i := by
      refine ext_at (by rw [addR_len, List.length_replicate, ai.1]) (fun k hk => ?_)
      rw [addR_len, List.length_replicate] at hk
      have e1 : pS (A.take d) k = at_ (row A d) k := by rw [← hA.p, sumP_at _ hk]
      have b1 := byt_at gd.2 k
      have b2 := byt_at ai.2 k
      rw [addR_at _ _ _ _ (by rw [List.length_replicate]; exact hk) (by rw [addR_len, sumP_len]; exact hk), addR_at _ _ _ _ (by rw [sumP_len]; exact hk) (by rw [gd.1]; exact hk), sumP_at _ hk, pS_set _ i _ k (by rw [lT]; omega), row_take (by omega), at_zero, e1,
        mulI_one b1, xorI_zero b2, mulI_one (byt_xor (byt_xor b1 b2) b1), zero_xorI (byt_xor (byt_xor b1 b2) b1), xorI_comm, xorI_self_left _ b2]
    rw [key]
    exact row_self (by omega)
/-- with two rows lost the rows made again are right -/
theorem fix_right {L : List (List Int)} {lost : List Int} {s d : Nat} (hL : Tw.GoodR s L) (hm : mayB L lost = true) (hk : lenR (kept L lost) = s) (hd : L.length = d + 2) (h2 : lost.length = 2) :
    sumP ((fixR L lost).take d) s = row (fixR L lost) d ∧ sumQ ((fixR L lost).take d) s = row (fixR L lost) (d + 1) := by
  obtain ⟨m1, m2, m3, m4, m5, m6⟩ := may_facts hm
  have hkl := kept_len m6
  rw [hk] at hkl
  have hg : Tw.GoodR s (ownR L lost s) := own_good (fun r hr => (hL r hr).2) hkl
  have hol := own_len L lost s
  have e : L.length - 2 = d := by omega
  have hsl : (srt lost).length = lost.length := by
    unfold srt
    split
    · split <;> rfl
    · rfl
  have hmem : ∀ i : Nat, i < L.length → (i : Int) ∈ srt lost → row (ownR L lost s) i = List.replicate s 0 := fun i hi hin => by
    rw [srt_mem m3] at hin
    rw [ownR_row _ _ _ _ hi, if_pos (by simpa using hin)]
  rcases gone_of m3 m4 m5 with h | ⟨a, h, ha⟩ | ⟨a, b, h, hab, hb⟩
  · rw [h] at hsl; simp at hsl; omega
  · rw [h] at hsl; simp at hsl; omega
  · refine code_two (R := ownR L lost s) hg (by omega) hab (by omega) (by omega) (hmem a (by omega) (by rw [h]; simp)) (hmem b (by omega) (by rw [h]; simp)) ?_
    unfold fixR
    simp only
    rw [hk, e, h]
    rfl
theorem spare (P : List Int) (h : P.length ≤ 2) : ∃ i : Nat, i < 3 ∧ P.contains (i : Int) = false := by
  match P, h with
  | [], _ => exact ⟨0, by omega, rfl⟩
  | [a], _ =>
    by_cases h0 : a = 0
    · exact ⟨1, by omega, by simp; omega⟩
    · exact ⟨0, by omega, by simp; omega⟩
  | [a, b], _ =>
    by_cases h0 : a = 0 ∨ b = 0
    · by_cases h1 : a = 1 ∨ b = 1
      · exact ⟨2, by omega, by simp; omega⟩
      · exact ⟨1, by omega, by simp; omega⟩
    · exact ⟨0, by omega, by simp; omega⟩
/-- whatever stands in the places that are lost -/
theorem fix_code {A l : List (List Int)} {n d : Nat} {P : List Int} (hA : Cd.Code A n d) (h2 : 2 ≤ d) (h14 : d ≤ 14) (hl : l.length = d + 2) (hok : Ok 2 (d + 2) P) (h : ∀ j, j < d + 2 → P.contains (j : Int) = false → row l j = row A j) : mayB l P = true ∧ fixR l P = A := by
  have lA := hA.len
  obtain ⟨o1, o2, o3⟩ := hok
  have hk : kept l P = kept A P := by
    rw [kept_idx, kept_idx, hl, lA]
    apply List.map_congr_left
    intro i hi
    have h3 := idx_lt hi
    unfold idx at hi
    rw [List.mem_filter] at hi
    exact h i h3 (by simpa using hi.2)
  have hkr : ∀ r ∈ kept A P, r.length = n := by
    rw [kept_idx]
    intro r hr
    obtain ⟨j, hj, rfl⟩ := List.mem_map.1 hr
    exact (Tw.good_row hA.good (idx_lt hj)).1
  have hmA : ∀ X : List (List Int), X.length = d + 2 → kept X P = kept A P → mayB X P = true := fun X hX hkX => by
    rw [mayB_of (by omega) (by omega) o1 (fun j hj => by have := o2 _ (List.getElem_mem hj); rw [hX]; exact this) o3, hkX]
    exact alikeR_of hkr
  obtain ⟨i0, hi0, hc0⟩ := spare P o1
  have hls : lenR (kept A P) = n := lenR_of hkr (by
    intro h
    have : row A i0 ∈ kept A P := by
      rw [kept_idx]
      refine List.mem_map.2 ⟨i0, ?_, rfl⟩
      unfold idx
      rw [List.mem_filter]
      exact ⟨by simp; omega, by rw [hc0]; rfl⟩
    rw [h] at this
    cases this)
  have ho : ∀ m, ownR l P m = ownR A P m := fun m => by
    refine row_ext (by rw [own_len, own_len, hl, lA]) (fun i hi => ?_)
    rw [own_len, hl] at hi
    rw [ownR_row _ _ _ _ (by omega), ownR_row _ _ _ _ (by omega)]
    split
    · rfl
    · rename_i hc
      exact h i hi (Bool.eq_false_iff.2 hc)
  refine ⟨hmA l hl hk, ?_⟩
  have e : fixR l P = fixR A P := by
    unfold fixR
    simp only
    rw [hk, ho, hl, lA]
  rw [e]
  have hmm := hmA A lA rfl
  match P, o1, o2, o3, hls, hmm, h with
  | [], _, _, _, _, _, _ => exact fixR_nil A
  | [x], _, o2, _, hls, _, _ =>
    have hx := o2 x (by simp)
    obtain ⟨i, rfl⟩ := Int.eq_ofNat_of_zero_le hx.1
    exact fix_one hA (by omega) hls
  | [x, y], o1, o2, o3, hls, hmm, _ =>
    have hx := o2 x (by simp)
    have hy := o2 y (by simp)
    have hxy : x ≠ y := by simpa using o3
    have hr := fix_right hA.good hmm hls lA rfl
    have hG := Rp.good_fix1 hA.good hmm hls
    have hX : Cd.Code (fixR A [x, y]) n d := ⟨hG, by rw [fixR_len]; exact lA, hr.1, hr.2⟩
    have hag : ∀ j, j < d + 2 → j ≠ x.toNat → j ≠ y.toNat → row (fixR A [x, y]) j = row A j := fun j hj h1 h2 => fixR_row A [x, y] (by simp) j (by omega) (by simp; omega) (by simp; omega)
    rcases Nat.lt_or_gt_of_ne (show x.toNat ≠ y.toNat by omega) with hlt | hgt
    · exact (uniq hA hX (by omega) hlt (by omega) (fun j hj h1 h2 => (hag j hj h1 h2).symm)).symm
    · exact (uniq hA hX (by omega) hgt (by omega) (fun j hj h1 h2 => (hag j hj h2 h1).symm)).symm
end Go.Proofs.Ytdbnladpogpiiaa.Rf
/-
  ramekinlaw5.same: are two rows of rows the same?
-/
namespace Go.Proofs.Ytdbnladpogpiiaa.Sm
open Go.RowKit Go.Proofs.YtdbnladpogpiiaaW.PrintWords Go.Proofs.YtdbnladpogpiiaaW.PrintLast Go.Proofs.YtdbnladpogpiiaaW.PrintMore Go.Proofs.Ytdbnladpogpiiaa.PRq Go.Proofs.Ytdbnladpogpiiaa.Fld
set_option linter.unusedSimpArgs false
set_option linter.unusedVariables false
def BytL (l : List (List Int)) : Prop := ∀ r ∈ l, ∀ x ∈ r, 0 ≤ x ∧ x < 256
theorem row_in {L : List (List Int)} {j : Nat} (h : j < L.length) : row L j = L[j] := by unfold row; simp [h]
theorem strOfNums_inj {a b : List Int} (ha : ∀ x ∈ a, 0 ≤ x ∧ x < 256) (hb : ∀ x ∈ b, 0 ≤ x ∧ x < 256) (h : (strOfNums a).toList = (strOfNums b).toList) : a = b := by
  rw [Lib.strOfNums_toList, Lib.strOfNums_toList] at h
  have hl : a.length = b.length := by have := congrArg List.length h; simpa [Lib.bytesOf] using this
  apply List.ext_getElem hl
  intro k h1 h2
  have h3 := congrArg (fun l => l[k]?) h
  simp only [Lib.bytesOf, List.getElem?_map, List.getElem?_eq_getElem h1, List.getElem?_eq_getElem h2, Option.map_some, Option.some.injEq] at h3
  have h4 := congrArg UInt8.toNat h3
  simp only [UInt8.toNat_ofNat'] at h4
  have ha1 := ha _ (List.getElem_mem h1)
  have hb1 := hb _ (List.getElem_mem h2)
  omega
set_option maxHeartbeats 1000000 in
theorem same_calls (A0 : Option Addr) (c0 : Nat) (l0 : List (List Int)) (A1 : Option Addr) (c1 : Nat) (l1 : List (List Int)) (w : World) (hr0 : Kd.C (Kd.slice 5 (Kd.int .u8)) w A0 l0.length l0) (hr1 : Kd.C (Kd.slice 5 (Kd.int .u8)) w A1 l1.length l1)
    (b0 : BytL l0) (b1 : BytL l1) (n0 : l0.length ≤ 1000000) (n1 : l1.length ≤ 1000000) :
    Calls Try.prog 23 #[.slice A0 l0.length c0, .slice A1 l1.length c1] w fun e w' => e = .returned (.bool (decide (l0 = l1))) ∧ Drawn0 w w' := by
  by_cases hlen : l0.length = l1.length
  · have Hlen := Lib.hid hlen
    have HR0 := Lib.hid hr0
    have HR1 := Lib.hid hr1
    have HB0 := Lib.hid b0
    have HB1 := Lib.hid b1
    clear b0 b1 hr0 hr1
    have hbe : ((l0.length : Int) != (l1.length : Int)) = false := by rw [hlen]; simp
    clear hlen
    go_enter Try.func23, Try.ntmps23
    go_wp2
    go_loopw [5] (fun i wr => ∃ j : Nat, j ≤ l0.length ∧ i = .int .i64 j ∧ Hid (∀ k, k < j → row l0 k = row l1 k) ∧ ∃ m, wr = w.drewN m) (fun i _ => l0.length - (intOf i).toNat)
    case atStart => exact ⟨0, Nat.zero_le _, rfl, fun k hk => by omega, 0, rfl⟩
    case round =>
      obtain ⟨j, hj, rfl, hrow, m, rfl⟩ := hrel
      by_cases hjl : j < l0.length
      · obtain ⟨ad0, A0', c0', e0, hx0, hl0, hi0⟩ := at_L1 HR0.out (j : Int) (by omega) (by omega)
        obtain ⟨ad1, A1', c1', e1, hx1, hl1, hi1⟩ := at_L1 HR1.out (j : Int) (by omega) (by have := Hlen.out; omega)
        subst e0 e1
        have hj1 : (j : Int) < (l1.length : Int) := by have := Hlen.out; omega
        have r0 : rd_L1 l0 (j : Int) = row l0 j := by unfold rd_L1 row; simp
        have r1 : rd_L1 l1 (j : Int) = row l1 j := by unfold rd_L1 row; simp
        rw [r0] at hx0 hi0 hl0
        rw [r1] at hx1 hi1 hl1
        clear r0 r1
        have hcv0 := fun n => Kd.C_string (P := Try.prog) (A := A0') (c := c0') Try.underlying22 Try.underlying5 Try.underlying9 (Kd.C_drewN hi0 n)
        have hcv1 := fun n => Kd.C_string (P := Try.prog) (A := A1') (c := c1') Try.underlying22 Try.underlying5 Try.underlying9 (Kd.C_drewN hi1 n)
        simp only [Int.toNat_natCast] at hx0 hx1
        clear hi0 hi1 hl0 hl1
        by_cases heq : row l0 j = row l1 j
        · have ht : ((strOfNums (row l0 j)).toList == (strOfNums (row l1 j)).toList) = true := by rw [heq]; simp
          have Heq := Lib.hid heq
          clear heq
          go_wp2_with fail
          go_quiet (fail)
          go_wp2
          refine ⟨⟨j + 1, by omega, by simp, fun k hk => ?_, m + nq, by first | rfl | exact World.drewN_drewN _ _ _⟩, by simp [intOf]; omega⟩
          by_cases e : k = j
          · subst e; exact Heq.out
          · exact hrow.out k (by omega)
        · have ht : ((strOfNums (row l0 j)).toList == (strOfNums (row l1 j)).toList) = false := by
            rw [beq_eq_false_iff_ne]
            intro h
            apply heq
            refine strOfNums_inj ?_ ?_ h
            · rw [row_in hjl]; exact HB0.out _ (List.getElem_mem hjl)
            · have hj2 : j < l1.length := by omega
              rw [row_in hj2]; exact HB1.out _ (List.getElem_mem hj2)
          have hd : decide (l0 = l1) = false := by
            rw [decide_eq_false_iff_not]
            intro e
            exact heq (by rw [e])
          have Hd := Lib.hid hd
          clear heq hd
          go_wp2_with fail
          go_quiet (fail)
          go_wp2
          go_ret
          rw [Hd.out]
          exact ⟨rfl, ⟨⟨m + nq, by first | rfl | exact World.drewN_drewN _ _ _⟩⟩⟩
      · have hd : decide (l0 = l1) = true := by
          rw [decide_eq_true_iff]
          apply List.ext_getElem Hlen.out
          intro k h1 h2
          rw [← row_in h1, ← row_in h2]
          exact hrow.out k (by omega)
        have Hd := Lib.hid hd
        clear hd
        go_wp2
        go_ret
        rw [Hd.out]
        exact ⟨rfl, ⟨⟨m, rfl⟩⟩⟩
  · have hbe : ((l0.length : Int) != (l1.length : Int)) = true := by rw [bne_iff_ne]; omega
    have hd : decide (l0 = l1) = false := by
      rw [decide_eq_false_iff_not]
      intro e
      exact hlen (by rw [e])
    have Hd := Lib.hid hd
    clear hd hlen b0 b1 hr0 hr1
    go_enter Try.func23, Try.ntmps23
    go_wp2
    go_ret
    rw [Hd.out]
    exact ⟨rfl, Drawn0.refl _⟩
end Go.Proofs.Ytdbnladpogpiiaa.Sm
/-
  A row of rows of the call's own whose elements are shared: an element put in its place.
-/
namespace Go.Proofs.Ytdbnladpogpiiaa.Sh
open Go.RowKit Go.Proofs.YtdbnladpogpiiaaW.PrintWords Go.Proofs.YtdbnladpogpiiaaW.PrintLast
open Go.Proofs.Ytdbnladpogpiiaa.Fld Go.Proofs.Ytdbnladpogpiiaa.Kp
set_option linter.unusedSimpArgs false
set_option linter.unusedVariables false
abbrev rowsK : Kd (List Int) := Kd.slice 5 (Kd.int .u8)
abbrev NR (w : World) (base g n cap : Nat) (xs : List (List Int)) : Prop := Kd.N rowsK 22 w base (fun _ => True) (.slice (some ⟨g, 0, none⟩) n cap) xs
theorem frozen {w : World} {base g n cap : Nat} {xs : List (List Int)} (h : NR w base g n cap xs) (k : Nat) : w.frozen? ⟨g, k, none⟩ = false := by
  obtain ⟨_, rows, _, ⟨_, inner, hown, _⟩, _⟩ := h
  rcases hown.2 with ⟨h', _⟩ | ⟨g', cap', cur, h', _, hh, _⟩
  · cases h'
  · cases h'
    simp [World.frozen?, hh]
theorem cell {w : World} {base g n cap : Nat} {xs : List (List Int)} (h : NR w base g n cap xs) (k : Nat) (hk : k < xs.length) : w.cell? ⟨g, k, none⟩ = some (hdr w (some ⟨g, 0, none⟩) xs k) := by
  obtain ⟨ad2, e2, hc2, _, _⟩ := hdr_at (L := xs) (A := some ⟨g, 0, none⟩) (w := w) (Kd.N_reads' h).2.2 k hk
  cases e2
  rw [show (⟨g, 0, none⟩ : Addr).add k = ⟨g, k, none⟩ from by simp [Addr.add]; omega] at hc2
  exact hc2
theorem put {w : World} {base g n cap b k : Nat} {xs : List (List Int)} {x' : List Int} {u : Value} (h : NR w base g n cap xs) (hk : k < n) (hM : Kd.FK rowsK w (fun i => i < b) x' [u]) (hb : b ≤ g) :
    NR (w.setCell ⟨g, k, none⟩ u) base g n cap (xs.set k x') ∧ w.grownBy (w.setCell ⟨g, k, none⟩ u) (some g) := by
  have hn := (Kd.N_reads' h).1
  have hc := cell h k (by omega)
  obtain ⟨hown, rows, hl, hR, hf⟩ := h
  obtain ⟨hrow, hg⟩ := Kd.R_seg (d := Kd.raw 1) (ok := fun _ => True) (okp := fun _ => False) (x' := [u]) (Kd.raw_any hR) (k : Int) (by omega) (by omega) (c := [hdr w (some ⟨g, 0, none⟩) xs k]) (seg := [u]) (j := 0) rfl (fun j v hj => by
    match j, hj with
    | 0, hj =>
      simp only [List.getElem?_cons_zero, Option.some.injEq] at hj
      subst hj
      rw [show (Kd.raw 1).sz = 1 from rfl, Nat.mul_one, Nat.add_zero, Int.toNat_natCast]
      exact hc) (by show 0 + 1 ≤ 1; omega) (Kd.FK_raw hM) (fun _ hk => hk.elim)
  have e : w.setCells g (Int.toNat (k : Int) * (Kd.raw 1).sz + 0) [u] = w.setCell ⟨g, k, none⟩ u := by
    rw [show (Kd.raw 1).sz = 1 from rfl, Nat.mul_one, Nat.add_zero, Int.toNat_natCast]
    rfl
  rw [e] at hrow hg
  have h2 := Kd.N_written (d := rowsK) hown hl hf hrow hg hM (fun i hi => ⟨trivial, by omega⟩)
  rw [Int.toNat_natCast] at h2
  exact ⟨h2, hg⟩
theorem addr (g k : Nat) : (⟨g, 0, none⟩ : Addr).add k = ⟨g, k, none⟩ := by simp [Addr.add]; omega
/-- one row put in another's place and changed there: what is read afterwards -/
theorem mod {w W : World} {base g n cap k c' : Nat} {A' : Option Addr} {xs : List (List Int)} {r : List Int} (h : NR w base g n cap xs) (hk : k < n) (hcells : ∀ i : Nat, i ≠ k → W.cell? ⟨g, i, none⟩ = w.cell? ⟨g, i, none⟩) (hck : W.cell? ⟨g, k, none⟩ = some (.slice A' r.length c')) (hc : r.length ≤ c') (hC : Kd.C (Kd.int .u8) W A' r.length r)
    (hheap : ∀ b : Nat, b < w.heap.size → b ≠ g → W.heap[b]? = w.heap[b]?) : Kd.C rowsK W (some ⟨g, 0, none⟩) n (xs.set k r) := by
  obtain ⟨hn, hnc, hmax⟩ := Kd.N_reads' h
  obtain ⟨_, rows, hl, hR, hf⟩ := h
  obtain ⟨_, _, hRC⟩ := Kd.R_reads' hR
  refine ⟨by rw [List.length_set]; omega, by have := hmax.2.1; omega, fun _ => ⟨_, rfl, fun j p hj => ?_⟩⟩
  have hjl : j < xs.length := by have := (List.getElem?_eq_some_iff.1 hj).1; rwa [List.length_set] at this
  by_cases e : j = k
  · subst e
    rw [List.getElem?_set_self hjl] at hj
    cases hj
    refine ⟨[.slice A' r.length c'], rfl, ⟨A', c', rfl, hc, hC⟩, fun q u hu => ?_⟩
    match q, hu with
    | 0, hu =>
      simp only [List.getElem?_cons_zero, Option.some.injEq] at hu
      subst hu
      rw [addr, show j * (rowsK).sz + 0 = j from Nat.mul_one j]
      exact hck
  · rw [List.getElem?_set_ne (Ne.symm e)] at hj
    have hjr : j < rows.length := by omega
    obtain ⟨ad, e2, hcell⟩ := hRC.2.2 (by omega)
    cases e2
    obtain ⟨c, hcl, hK, hcc⟩ := hcell j rows[j] (List.getElem?_eq_getElem hjr)
    have hk1 := Kd.FK_now (Kd.FK_step (hf j p rows[j] hj (List.getElem?_eq_getElem hjr)) (fun b hb hlt => hheap b hlt (fun he => hb.2 (by rw [he]; rfl))))
    refine ⟨c, hcl, by rw [show c = rows[j] from hK.1]; exact hk1, fun q u hu => ?_⟩
    have h3 := hcc q u hu
    have hq : q = 0 := by
      have h4 := (List.getElem?_eq_some_iff.1 hu).1
      have h5 : c.length = 1 := hcl
      omega
    subst hq
    rw [addr, show j * (Kd.raw (Kd.sz rowsK)).sz + 0 = j from Nat.mul_one j] at h3
    rw [addr, show j * (rowsK).sz + 0 = j from Nat.mul_one j, hcells j e]
    exact h3
theorem bfrozen {w : World} {base R n c : Nat} {e : TypeId} {hs : List Value} (h : w.ownsRow base e 1 (.slice (some ⟨R, 0, none⟩) n c) n hs) (k : Nat) : w.frozen? ⟨R, k, none⟩ = false := by
  rcases h.2 with ⟨h', _⟩ | ⟨g', cap', cur, h', _, hh, _⟩
  · cases h'
  · cases h'
    simp [World.frozen?, hh]
end Go.Proofs.Ytdbnladpogpiiaa.Sh
/-
  RsFixes: its walk.
-/
namespace Go.Proofs.Ytdbnladpogpiiaa.Fs
open Go.RowKit Go.Proofs.YtdbnladpogpiiaaW.PrintWords Go.Proofs.YtdbnladpogpiiaaW.PrintLast
open Go.Proofs.Ytdbnladpogpiiaa.Fld Go.Proofs.Ytdbnladpogpiiaa.Pl Go.Proofs.Ytdbnladpogpiiaa.Ot Go.Proofs.Ytdbnladpogpiiaa.Kp Go.Proofs.Ytdbnladpogpiiaa.Fw Go.Proofs.Ytdbnladpogpiiaa.Co Go.Proofs.Ytdbnladpogpiiaa.Cw Go.Proofs.Ytdbnladpogpiiaa.Cd Go.Proofs.Ytdbnladpogpiiaa.Pc Go.Proofs.Ytdbnladpogpiiaa.Rf
set_option linter.unusedSimpArgs false
set_option linter.unusedVariables false
theorem known_any (w : World) : Calls Try.prog 11 #[] w fun e w' => e = .returned (.bool true) ∧ Below w.heap.size w w' := by
  obtain ⟨k, hk⟩ := known_ev.rounds
  exact PRq.ramekinlaw5_known.calls k true w hk
theorem within_any (a n : Int) (hn : 1 ≤ n) (hn2 : n ≤ 4611686018427387904) (w : World) : Calls Try.prog 12 #[.int .i64 a, .int .i64 n] w fun e w' => e = .returned (.int .i64 (a % n)) ∧ Drawn0 w w' := PRq.ramekinlaw5_within.calls a n _ w (within_f a n hn hn2)
theorem rows_any (A : Option Addr) (c : Nat) (l0 : List Int) (m s : Nat) (w : World) (hm : m ≤ 1000) (hs : s ≤ 1000) (hl : l0.length ≤ 9223372036854775807) (hr : Kd.C (Kd.int .u8) w A l0.length l0) (hc : l0.length ≤ c) :
    ∃ L : List (List Int), L.length = m ∧ (∀ r ∈ L, r.length = s) ∧ (∀ r ∈ L, Bytes r) ∧ Calls Try.prog 13 #[.slice A l0.length c, .int .i64 (m : Int), .int .i64 (s : Int)] w fun e w' => ∃ v, e = .returned v ∧ Kd.N (Kd.slice 5 (Kd.int .u8)) 22 w' w.heap.size (fun k => w.heap.size ≤ k) v L ∧ Below w.heap.size w w' := by
  obtain ⟨L, h, h1, h2, h3⟩ := rows_ev l0 m s hm hs hl
  obtain ⟨k, hk⟩ := h.rounds
  exact ⟨L, h1, h2, h3, PRq.ramekinlaw5_Rows.calls k A c l0 m s L w hr hc hk⟩
theorem refpar_any (A : Option Addr) (n c : Nat) (L : List (List Int)) (w : World) (hn : ∀ r ∈ L, r.length = n) (hL : ∀ r ∈ L, Bytes r) (h2 : 2 ≤ L.length) (h14 : L.length ≤ 14) (hn2 : n ≤ 281474976710656) (hr : Kd.C (Kd.slice 5 (Kd.int .u8)) w A L.length L) (hc : L.length ≤ c) :
    Calls Try.prog 18 #[.slice A L.length c] w fun e w' => ∃ v0 v1, e = .returned (.tuple #[v0, v1]) ∧ BR w' w.heap.size v0 (sumP L n) ∧ BR w' w.heap.size v1 (sumQ L n) ∧ Below w.heap.size w w' := by
  obtain ⟨k, hk⟩ := (Rp.refpar_ev L n hn hL h2 h14 hn2).rounds
  refine (PRr.ramekinref5_Parity.calls k A c L _ _ w hr hc hk).mono ?_
  rintro e w' ⟨v0, v1, rfl, h0, h1, hb⟩
  exact ⟨v0, v1, rfl, BR.of h0, BR.of h1, hb⟩
theorem places_any (A : Option Addr) (c : Nat) (l3 : List Int) (m lim : Nat) (w : World) (hm : 1 ≤ m) (hm2 : m ≤ 1000000) (hlim : lim ≤ 1000) (hl : l3.length ≤ 9223372036854775807) (hr : Kd.C (Kd.int .i64) w A l3.length l3) (hc : l3.length ≤ c) :
    ∃ P, Ok lim m P ∧ Calls Try.prog 21 #[.slice A l3.length c, .int .i64 (m : Int), .int .i64 (lim : Int)] w fun e w' => ∃ v, e = .returned v ∧ Kd.R (Kd.int .i64) 3 w' w.heap.size (fun _ => True) v P ∧ Below w.heap.size w w' := by
  obtain ⟨P, h, h2⟩ := places_ev l3 m lim hm hm2 hlim hl
  obtain ⟨k, hk⟩ := h.rounds
  exact ⟨P, h2, PRq.ramekinlaw4_Places.calls k A c l3 m lim P w hr hc hk⟩
/-- the first j of the places written over by x -/
def tornA (AA : List (List Int)) (P : List Int) (x : List Int) (j : Nat) : List (List Int) := (P.take j).foldl (fun l k => l.set k.toNat x) AA
theorem foldl_set_len (P : List Int) (x : List Int) : ∀ AA : List (List Int), (P.foldl (fun l k => l.set k.toNat x) AA).length = AA.length := by
  induction P with
  | nil => intro AA; rfl
  | cons a P ih => intro AA; rw [List.foldl_cons, ih, List.length_set]
theorem foldl_set_row (P : List Int) (x : List Int) (i : Nat) (h : ∀ k ∈ P, k.toNat ≠ i) : ∀ AA : List (List Int), row (P.foldl (fun l k => l.set k.toNat x) AA) i = row AA i := by
  induction P with
  | nil => intro AA; rfl
  | cons a P ih =>
    intro AA
    rw [List.foldl_cons, ih (fun k hk => h k (List.mem_cons_of_mem _ hk)), Tw.row_set_ne (h a List.mem_cons_self)]
theorem foldl_set_mem (P : List Int) (x : List Int) : ∀ (AA : List (List Int)) (r : List Int), r ∈ P.foldl (fun l k => l.set k.toNat x) AA → r ∈ AA ∨ r = x := by
  induction P with
  | nil => intro AA r h; exact .inl h
  | cons a P ih =>
    intro AA r h
    rw [List.foldl_cons] at h
    rcases ih _ _ h with h1 | h1
    · exact List.mem_or_eq_of_mem_set h1
    · exact .inr h1
theorem tornA_len (AA : List (List Int)) (P : List Int) (x : List Int) (j : Nat) : (tornA AA P x j).length = AA.length := foldl_set_len _ _ _
theorem tornA_succ (AA : List (List Int)) (P : List Int) (x : List Int) (j : Nat) (hj : j < P.length) : tornA AA P x (j + 1) = (tornA AA P x j).set P[j].toNat x := by
  unfold tornA
  rw [← List.take_append_getElem hj, List.foldl_append]
  rfl
theorem rd_at (P : List Int) (j : Nat) (hj : j < P.length) : rd P (j : Int) = P[j] := by
  simp [rd, rdOf, hj]
/-- what stands in the places that are lost does not matter -/
theorem torn_fix {AA : List (List Int)} {P x : List Int} {n d : Nat} (hA : Cd.Code AA n d) (h2 : 2 ≤ d) (h14 : d ≤ 14) (hn : n ≤ 1000000) (hok : Ok 2 (d + 2) P) (hx : Bytes x) (hx2 : x.length ≤ 40) : fixF (tornA AA P x P.length) P = some (AA, true) := by
  have hl := tornA_len AA P x P.length
  have lA := hA.len
  obtain ⟨o1, o2, o3⟩ := hok
  obtain ⟨m1, m2⟩ := fix_code (l := tornA AA P x P.length) hA h2 h14 (by rw [hl, lA]) ⟨o1, o2, o3⟩ (fun j hj hc => by
    unfold tornA
    rw [List.take_length]
    refine foldl_set_row P x j (fun k hk e => ?_) AA
    have h3 := o2 k hk
    have : k = (j : Int) := by omega
    subst this
    rw [List.contains_iff_mem.2 hk] at hc
    cases hc)
  have hm : ∀ r ∈ tornA AA P x P.length, r ∈ AA ∨ r = x := fun r hr => foldl_set_mem _ _ _ _ hr
  have c1 : ∀ r ∈ tornA AA P x P.length, ∀ y ∈ r, Byt y := fun r hr => by
    rcases hm r hr with h | h
    · exact (hA.good r h).2
    · rw [h]; exact hx
  have c2 : ∀ r ∈ tornA AA P x P.length, r.length ≤ 1000000 := fun r hr => by
    rcases hm r hr with h | h
    · rw [(hA.good r h).1]; exact hn
    · rw [h]; omega
  unfold fixF
  rw [if_pos ⟨c1, c2, by omega, by omega⟩, if_pos m1, m2]
set_option maxRecDepth 100000 in
set_option maxHeartbeats 2000000 in
theorem fixes_any (A0 : Option Addr) (c0 : Nat) (l0 : List Int) (a1 a2 : Int) (A3 : Option Addr) (c3 : Nat) (l3 : List Int) (A4 : Option Addr) (c4 : Nat) (l4 : List Int) (w : World) (hr0 : Kd.C (Kd.int .u8) w A0 l0.length l0) (hc0 : l0.length ≤ c0) (hr3 : Kd.C (Kd.int .i64) w A3 l3.length l3) (hc3 : l3.length ≤ c3) (hr4 : Kd.C (Kd.int .u8) w A4 l4.length l4) (hc4 : l4.length ≤ c4)
    (n0 : l0.length ≤ 9223372036854775807) (n3 : l3.length ≤ 9223372036854775807) (b4 : Bytes l4) :
    Calls Try.prog 6 #[.slice A0 l0.length c0, .int .i64 a1, .int .i64 a2, .slice A3 l3.length c3, .slice A4 l4.length c4] w fun e w' => e = .returned (.bool true) ∧ Below w.heap.size w w' := by
  have HR0 := Lib.hid hr0
  have HR3 := Lib.hid hr3
  have HR4 := Lib.hid hr4
  have N0 := Lib.hid n0
  have N3 := Lib.hid n3
  clear hr0 hr3 hr4 n0 n3
  obtain ⟨m0, em, hm0⟩ : ∃ m : Nat, a1 % 13 = (m : Int) ∧ m < 13 := ⟨(a1 % 13).toNat, by omega, by omega⟩
  obtain ⟨s, es, hs⟩ : ∃ m : Nat, a2 % 20 = (m : Int) ∧ m < 20 := ⟨(a2 % 20).toNat, by omega, by omega⟩
  have EM := Lib.hid em
  have ES := Lib.hid es
  clear em es
  go_enter Try.func6, Try.ntmps6
  go_wp2_with fail
  refine (known_any w).mono ?_
  rintro e w1 ⟨rfl, hb1⟩
  have HB1 := Lib.hid hb1
  clear hb1
  by_cases h40 : 40 < l4.length
  · go_wp2_with fail
    go_ret
    exact ⟨rfl, HB1.out⟩
  go_wp2_with fail
  refine (within_any a1 13 (by omega) (by omega) w1).mono ?_
  rintro e w2 ⟨rfl, q2, rfl⟩
  rw [EM.out]
  go_wp2_with fail
  refine (within_any a2 20 (by omega) (by omega) _).mono ?_
  rintro e w3 ⟨rfl, q3, rfl⟩
  rw [ES.out]
  have HB3 := Lib.hid (pw_below_drewN (pw_below_drewN HB1.out q2) q3)
  obtain ⟨w3, hw3⟩ : ∃ w3, (w1.drewN q2).drewN q3 = w3 := ⟨_, rfl⟩
  rw [hw3] at HB3 ⊢
  clear hw3
  obtain ⟨L, L1, L2, L3, hrows⟩ := rows_any A0 c0 l0 (2 + m0) s w3 (by omega) (by omega) N0.out (Kd.C_below HR0.out HB3.out) hc0
  have HRows := Lib.hid hrows
  have HL1 := Lib.hid L1
  have hL2 : 2 ≤ L.length := by omega
  have hLl : L.length ≤ 14 := by omega
  clear hrows L1
  go_wp2_with fail
  rw [show (2 : Int) + (m0 : Int) = ((2 + m0 : Nat) : Int) from by omega]
  refine HRows.out.mono ?_
  rintro e w4 ⟨vL, rfl, nL, hb4⟩
  obtain ⟨AL, cL, rfl⟩ := Kd.N_slice nL
  have NL := Lib.hid nL
  have HB4 := Lib.hid (HB3.out.trans (hb4.mono HB3.out.size))
  have HRd := Lib.hid (Kd.N_reads' nL)
  clear nL hb4 HRows
  have HPar := Lib.hid (refpar_any AL s cL L w4 L2 L3 hL2 hLl (by omega) HRd.out.2.2 HRd.out.2.1)
  go_wp2_with fail
  refine HPar.out.mono ?_
  rintro e w5 ⟨vp, vq, rfl, hp, hq, hb5⟩
  have HB5 := Lib.hid (HB4.out.trans (hb5.mono HB4.out.size))
  have FL5 := Lib.hid (Kd.C_F (Kd.heap_slice 5 (Kd.heap_int .u8)) (Kd.C_below HRd.out.2.2 hb5))
  obtain ⟨Ap, cp, ep, lp, hCp⟩ := hp.slice
  obtain ⟨Aq, cq, eq, lq, hCq⟩ := hq.slice
  subst ep eq
  have FP5 := Lib.hid (Kd.C_F (Kd.heap_int .u8) hCp)
  have FQ5 := Lib.hid (Kd.C_F (Kd.heap_int .u8) hCq)
  clear hp hq hb5 NL HPar HB4 HRd hCp hCq
  obtain ⟨P0, hP0⟩ : ∃ x, sumP L s = x := ⟨_, rfl⟩
  obtain ⟨Q0, hQ0⟩ : ∃ x, sumQ L s = x := ⟨_, rfl⟩
  rw [hP0] at FP5 lp ⊢
  rw [hQ0] at FQ5 lq ⊢
  obtain ⟨AA, hAA⟩ : ∃ x, L ++ [P0, Q0] = x := ⟨_, rfl⟩
  have HAA := Lib.hid hAA
  have HP0 := Lib.hid hP0
  have HQ0 := Lib.hid hQ0
  have LAA := Lib.hid (show AA.length = L.length + 2 from by rw [← hAA]; simp)
  clear hAA hP0 hQ0
  go_wp2_with (first
    | ((with_reducible refine gate_dst (N := 37) rfl ?_); refine Kd.N_lit (Kd.slice 5 (Kd.int .u8)) (w0 := w5) w5.heap.size 22 rfl (N' := 37) rfl (xs := ([] : List (List Int))) (inner := []) (ok := fun _ => True) (okp := fun _ => True) (by first | (go_simp; done) | (go_simp; rfl)) (Reps.none _ _) (fun _ hk => hk) trivial (Below.refl _ _) (Nat.le_refl _) (by simp) ?_; intro v37 w6 n37 hb6 _ _; have N37 := Lib.hid n37; have B6 := Lib.hid hb6; clear n37 hb6)
    | ((with_reducible refine gate_builtin (b := .append) (xs := #[.tmp 37, .tmp 38]) rfl ?_); at_builtin; refine Kd.N_append_rows (Kd.slice 5 (Kd.int .u8)) (w0 := w5) w5.heap.size rfl (.tmp 37) (.tmp 38) 25 22 (.slice none 0 0) 24 rfl Try.underlying25 info_row rfl (by decide) (by omega) v37 [] L AL L.length cL (fun _ => True) (fun k => k < w5.heap.size) rfl rfl N37.out (Kd.F_below FL5.out B6.out) (fun k hk => ⟨trivial, fun e => by have := Kd.N_base N37.out k e.symm; omega⟩) (fun _ _ => trivial) B6.out B6.out.size (by simp; omega) ?_; intro v39 w7 n39 hb7 _ _; rw [List.nil_append] at n39; have N39 := Lib.hid n39; have B7 := Lib.hid hb7; clear n39 hb7 N37 B6)
    | ((with_reducible refine gate_dst (N := 42) rfl ?_); refine Kd.N_lit (Kd.slice 5 (Kd.int .u8)) (w0 := w5) w5.heap.size 22 rfl (N' := 42) rfl (xs := [P0, Q0]) (inner := [.slice Ap P0.length cp, .slice Aq Q0.length cq]) (ok := fun k => k < w5.heap.size ∨ w7.heap.size ≤ k) (okp := fun k => k < w5.heap.size) (by first | (go_simp; done) | (go_simp; rfl)) (Reps.one (Kd.FK_slice_mk lp (Kd.F_below FP5.out B7.out)) (Reps.one (Kd.FK_slice_mk lq (Kd.F_below FQ5.out B7.out)) (Reps.none _ _))) (fun _ hk => .inl hk) (.inr (Nat.le_refl _)) B7.out B7.out.size (by simp) ?_; intro v42 w8 n42 hb8 hg8 _; have N39' := Lib.hid (Kd.N_grown N39.out hg8 (fun _ _ => by simp)); have H39 := Lib.hid (fun k e => And.intro (Kd.N_base N39.out k e) (Kd.N_lt N39.out k e)); obtain ⟨A42, c42, e42⟩ := Kd.N_slice n42; subst e42; have N42 := Lib.hid n42; have B8 := Lib.hid hb8; clear n42 hb8 hg8 N39 B7)
    | ((with_reducible refine gate_builtin (b := .append) (xs := #[.tmp 39, .tmp 42]) rfl ?_); at_builtin; refine Kd.N_append_rows (Kd.slice 5 (Kd.int .u8)) (w0 := w5) w5.heap.size rfl (.tmp 39) (.tmp 42) 25 22 (.slice none 0 0) 24 rfl Try.underlying25 info_row rfl (by decide) (by omega) v39 L [P0, Q0] A42 _ c42 (fun _ => True) (fun k => k < w5.heap.size ∨ w7.heap.size ≤ k) rfl rfl N39'.out (Kd.N_F N42.out) (fun k hk => ⟨trivial, fun e => by have h := H39.out k e.symm; omega⟩) (fun _ _ => trivial) B8.out B8.out.size (by simp; omega) ?_; intro v43 w9 n43 hb9 _ _; rw [HAA.out] at n43; obtain ⟨A14, c14, e43⟩ := Kd.N_slice n43; subst e43; have N43 := Lib.hid n43; have B9 := Lib.hid hb9; clear n43 hb9 N42 B8 N39' H39))
  have HB9 := Lib.hid (HB5.out.trans (B9.out.mono HB5.out.size))
  obtain ⟨P, hP, hpl⟩ := places_any A3 c3 l3 AA.length 2 w9 (by have := LAA.out; omega) (by have := LAA.out; omega) (by omega) N3.out (Kd.C_below HR3.out HB9.out) hc3
  have HPl := Lib.hid hpl
  have HOK := Lib.hid hP
  have HA9 := Lib.hid (Kd.N_reads' N43.out)
  clear hpl hP B9 N43
  refine HPl.out.mono ?_
  rintro e w10 ⟨v15, rfl, hr15, hb10⟩
  have HB10 := Lib.hid (HB9.out.trans (hb10.mono HB9.out.size))
  have OW15 := Lib.hid (Kd.own_of_R hr15)
  obtain ⟨A15, c15, e15, l15, hC15⟩ := Kd.R_reads hr15
  subst e15
  have HC15 := Lib.hid hC15
  have HC14 := Lib.hid (Kd.C_below HA9.out.2.2 hb10)
  have FA10 := Lib.hid (Kd.C_F (Kd.heap_slice 5 (Kd.heap_int .u8)) HC14.out)
  have FJ10 := Lib.hid (Kd.C_F (Kd.heap_int .u8) (Kd.C_below HR4.out HB10.out))
  clear hr15 hb10 hC15 HPl HB5 FL5 FP5 FQ5 HB9
  have hAA16 : AA.length ≤ 16 := by have := LAA.out; omega
  have hAA4 : 4 ≤ AA.length := by have := LAA.out; omega
  go_wp2_with (first
    | ((with_reducible refine gate_dst (N := 48) rfl ?_); refine Kd.N_lit (Kd.slice 5 (Kd.int .u8)) (w0 := w10) w10.heap.size 22 rfl (N' := 48) rfl (xs := ([] : List (List Int))) (inner := []) (ok := fun _ => True) (okp := fun _ => True) (by first | (go_simp; done) | (go_simp; rfl)) (Reps.none _ _) (fun _ hk => hk) trivial (Below.refl _ _) (Nat.le_refl _) (by simp) ?_; intro v48 w11 n48 hb11 _ _; have N48 := Lib.hid n48; have B11 := Lib.hid hb11; clear n48 hb11)
    | ((with_reducible refine gate_builtin (b := .append) (xs := #[.tmp 48, .tmp 49]) rfl ?_); at_builtin; refine Kd.N_append_rows (Kd.slice 5 (Kd.int .u8)) (w0 := w10) w10.heap.size rfl (.tmp 48) (.tmp 49) 25 22 (.slice none 0 0) 24 rfl Try.underlying25 info_row rfl (by decide) (by omega) v48 [] AA A14 AA.length c14 (fun _ => True) (fun k => k < w10.heap.size) rfl rfl N48.out (Kd.F_below FA10.out B11.out) (fun k hk => ⟨trivial, fun e => by have := Kd.N_base N48.out k e.symm; omega⟩) (fun _ _ => trivial) B11.out B11.out.size (by simp; omega) ?_; intro v50 w12 n50 hb12 _ _; rw [List.nil_append] at n50; obtain ⟨g, cap, e50, g10, _⟩ := Kd.N_form n50 (by omega); subst e50; have N50 := Lib.hid n50; have B12 := Lib.hid hb12; clear n50 hb12 N48 B11))
  clear FA10
  have hP2 : P.length ≤ 2 := HOK.out.1
  go_loopw [17] (fun i wr => ∃ j : Nat, i = .int .i64 j ∧ j ≤ P.length ∧ Hid (Kd.N (Kd.slice 5 (Kd.int .u8)) 22 wr w10.heap.size (fun _ => True) (.slice (some ⟨g, 0, none⟩) AA.length cap) (tornA AA P l4 j)) ∧ Hid (Below w10.heap.size w10 wr)) (fun i _ => P.length - (intOf i).toNat)
  case atStart => exact ⟨0, rfl, Nat.zero_le _, N50, B12⟩
  case round =>
    clear N50 B12
    obtain ⟨j, rfl, hj, HN, HB⟩ := hrel
    by_cases hjl : j < P.length
    · have hin := HOK.out.2.1 _ (List.getElem_mem hjl)
      obtain ⟨k, hk⟩ := Int.eq_ofNat_of_zero_le hin.1
      rw [hk] at hin
      have hkA : k < AA.length := by omega
      clear hin
      obtain ⟨ad, e, hcell⟩ := Kd.at_int (Kd.C_below HC15.out HB.out) (j : Int) (by omega) (by omega)
      subst e
      rw [rd_at P j hjl, hk, Int.toNat_natCast] at hcell
      have HK := Lib.hid hk
      have hfz := Sh.frozen HN.out k
      have hc2 := Sh.cell HN.out k (by rw [tornA_len]; exact hkA)
      have hput := Sh.put (x' := l4) (u := .slice A4 l4.length c4) HN.out hkA (Kd.FK_slice_mk hc4 (Kd.F_below FJ10.out HB.out)) g10
      rw [show (tornA AA P l4 j).set k l4 = tornA AA P l4 (j + 1) from by rw [tornA_succ AA P l4 j hjl, hk, Int.toNat_natCast]] at hput
      have HPut := Lib.hid hput
      have HBg := Lib.hid (HB.out.grown hput.2 HB.out.size (fun k e => by injection e with e; omega))
      clear hk hput
      go_wp2_with fail
      go_roundw
      case rel => exact ⟨j + 1, by simp, by omega, Lib.hid HPut.out.1, HBg⟩
      case measure => simp [intOf]; omega
    · obtain rfl : j = P.length := by omega
      have HT := Lib.hid (tornA_len AA P l4 P.length)
      obtain ⟨T, hT⟩ : ∃ x, tornA AA P l4 P.length = x := ⟨_, rfl⟩
      have HCode := Lib.hid (code_of (L := L) (n := s) (fun r hr => ⟨L2 r hr, L3 r hr⟩))
      have HFx := Lib.hid (show fixF T P = some (AA, true) from by
        have hc := HCode.out
        rw [HP0.out, HQ0.out, HAA.out] at hc
        have hok := HOK.out
        rw [LAA.out] at hok
        rw [← hT]
        exact torn_fix hc hL2 hLl (by omega) hok b4 (by omega))
      rw [hT] at HN HT
      clear hT
      have HB14 := Lib.hid (HB10.out.trans (HB.out.mono HB10.out.size))
      have hfix := fix_any (some ⟨g, 0, none⟩) cap T A15 c15 P AA true wr (by have h := (Kd.N_reads' HN.out).2.2; exact h) (by have h := (Kd.N_reads' HN.out).2.1; rw [HT.out]; exact h) (Kd.C_below HC15.out HB.out) l15 HFx.out
      rw [HT.out] at hfix
      have HFix := Lib.hid hfix
      clear hfix
      go_wp2_with fail
      refine HFix.out.mono ?_
      rintro e w15 ⟨v18, rfl, n18, hb15⟩
      obtain ⟨A18, c18, e18⟩ := Kd.N_slice n18
      subst e18
      have HB15 := Lib.hid (HB14.out.trans (hb15.mono HB14.out.size))
      have HC18 := Lib.hid (Kd.N_reads' n18).2.2
      have HC14' := Lib.hid (Kd.C_below (Kd.C_below HC14.out HB.out) hb15)
      have hby : Sm.BytL AA := fun r hr => by
        have hc := HCode.out
        rw [HP0.out, HQ0.out, HAA.out] at hc
        exact (hc.good r hr).2
      have hsm := Sm.same_calls A18 c18 AA A14 c14 AA w15 HC18.out HC14'.out hby hby (by omega) (by omega)
      rw [decide_eq_true (rfl : AA = AA)] at hsm
      have HSm := Lib.hid hsm
      clear n18 hb15 HFix hsm hby
      go_wp2_with fail
      refine HSm.out.mono ?_
      rintro e w16 ⟨rfl, q4, rfl⟩
      go_wp2_with fail
      go_ret
      exact ⟨rfl, pw_below_drewN HB15.out q4⟩
  done
end Go.Proofs.Ytdbnladpogpiiaa.Fs
/-
  Functions of the program as plain Lean functions, each with a proof that its call does what that function says. Written by a program of mine (pr.py), which calls a scratch copy of the kit's print.
-/
namespace Go.Proofs.Ytdbnladpogpiiaa.PRc
open Go.RowKit Go.Proofs.YtdbnladpogpiiaaW.PrintWords Go.Proofs.YtdbnladpogpiiaaW.PrintLast Go.Proofs.YtdbnladpogpiiaaW.PrintMore
attribute [local go_sem] max2_int min2_int max_two min_two max_three min_three max_four min_four   -- for this text's walks alone
set_option linter.unusedVariables false
set_option linter.unusedSimpArgs false



def errW : Option Int → Value
  | none => .nilIface
  | some c => .iface 0 (.int .i64 c)
theorem errW_none : errW none = .nilIface := rfl
theorem errW_some (c : Int) : errW (some c) = .iface 0 (.int .i64 c) := rfl

theorem info3 : (Try.prog.info? 3).map (fun i => (i.zero, i.size, i.bytes)) = some (some (.int .i64 0), 1, 8) := by kernel_rfl
theorem info5 : (Try.prog.info? 5).map (fun i => (i.zero, i.size, i.bytes)) = some (some (.int .u8 0), 1, 1) := by kernel_rfl
theorem info22 : (Try.prog.info? 22).map (fun i => (i.zero, i.size, i.bytes)) = some (some (.slice none 0 0), 1, 24) := by kernel_rfl
-- the values' own types
def rd_L1 (xs : List (List Int)) (i : Int) : (List Int) := xs.getD i.toNat ([] : List Int)
theorem at_L1 {w : World} {A : Option Addr} {n : Nat} {xs : List (List Int)} (h : Kd.C (Kd.slice 5 (Kd.int .u8)) w A n xs) (i : Int) (h0 : 0 ≤ i) (h1 : i < n) : ∃ ad A0 c0, A = some ad ∧ w.cell? (ad.add i.toNat) = some (.slice A0 (rd_L1 xs i).length c0) ∧ (rd_L1 xs i).length ≤ c0 ∧ (Kd.int .u8).C w A0 (rd_L1 xs i).length (rd_L1 xs i) := by
  obtain ⟨ad, c, e, _, hK, hc0⟩ := Kd.C_get h ([] : List Int) i h0 h1
  have hc : ∀ j u, c[j]? = some u → w.cell? (ad.add (i.toNat * 1 + j)) = some u := hc0
  obtain ⟨A0, c0, rfl, l0, g0⟩ := hK
  exact ⟨ad, A0, c0, e, by have hq := hc 0 _ rfl; rwa [Nat.mul_one, Nat.add_zero] at hq, l0, g0⟩

end Go.Proofs.Ytdbnladpogpiiaa.PRc
/-
  Functions of the program as plain Lean functions, each with a proof that its call does what that function says. Written by a program of mine (pr.py), which calls a scratch copy of the kit's print.
-/
namespace Go.Proofs.Ytdbnladpogpiiaa.PRc
open Go.RowKit Go.Proofs.YtdbnladpogpiiaaW.PrintWords Go.Proofs.YtdbnladpogpiiaaW.PrintLast Go.Proofs.YtdbnladpogpiiaaW.PrintMore
attribute [local go_sem] max2_int min2_int max_two min_two max_three min_three max_four min_four   -- for this text's walks alone
set_option linter.unusedVariables false
set_option linter.unusedSimpArgs false

/-! ### ramekinref5_Parity: function 18 (by hand) -/
noncomputable def ramekinref5_Parity.f (l0 : List (List Int)) : Option (List Int × List Int) := Lim.lim (fun k_ => PRr.ramekinref5_Parity.f k_ l0)
theorem ramekinref5_Parity.calls (A0 : Option Addr) (c0 : Nat) (l0 : List (List Int)) (r1 : List Int) (r2 : List Int) (w : World) (hr0 : Kd.C (Kd.slice 5 (Kd.int .u8)) w A0 l0.length l0) (hc0 : l0.length ≤ c0) (h : ramekinref5_Parity.f l0 = some (r1, r2)) :
    Calls Try.prog 18 #[.slice A0 l0.length c0] w fun e w' => ∃ v0_ v1_ : Value, e = .returned (.tuple #[v0_, v1_]) ∧ Kd.R (Kd.int .u8) 5 w' w.heap.size (fun k_ => some k_ ≠ (v1_ : Value).ownBlock) v0_ r1 ∧ Kd.R (Kd.int .u8) 5 w' w.heap.size (fun k_ => some k_ ≠ (v0_ : Value).ownBlock) v1_ r2 ∧ Below w.heap.size w w' := by
  obtain ⟨k_, hk_⟩ := Lim.lim_some h
  first
  | exact PRr.ramekinref5_Parity.calls k_ A0 c0 l0 r1 r2 w hr0 hc0 hk_
  | exact (PRr.ramekinref5_Parity.calls k_ A0 c0 l0 r1 r2 w hr0 hc0 hk_).mono (fun _ _ h_ => ⟨h_.1, Lim.below_of_drewN h_.2⟩)

/-! ### ramekinref5_even: function 28 (by hand) -/
noncomputable def ramekinref5_even.f (l0 : List (List Int)) (a1 : Int) (a2 : Int) : Option (Bool) := Lim.lim (fun k_ => PRq.ramekinref5_even.f k_ l0 a1 a2)
theorem ramekinref5_even.calls (A0 : Option Addr) (c0 : Nat) (l0 : List (List Int)) (a1 : Int) (a2 : Int) (r : Bool) (w : World) (hr0 : Kd.C (Kd.slice 5 (Kd.int .u8)) w A0 l0.length l0) (hc0 : l0.length ≤ c0) (h : ramekinref5_even.f l0 a1 a2 = some r) :
    Calls Try.prog 28 #[.slice A0 l0.length c0, .int .i64 a1, .int .i64 a2] w fun e w' => e = .returned (.bool r) ∧ Below w.heap.size w w' := by
  obtain ⟨k_, hk_⟩ := Lim.lim_some h
  first
  | exact PRq.ramekinref5_even.calls k_ A0 c0 l0 a1 a2 r w hr0 hc0 hk_
  | exact (PRq.ramekinref5_even.calls k_ A0 c0 l0 a1 a2 r w hr0 hc0 hk_).mono (fun _ _ h_ => ⟨h_.1, Lim.below_of_drewN h_.2⟩)

/-! ### ramekinref5_Check: function 20 -/
noncomputable def ramekinref5_Check.f (l0 : List (List Int)) : Option (Bool) := (ramekinref5_even.f l0 4 16).bind fun t110 => (if t110 = true then (if 0 ≤ (wrap64 ((l0.length : Int) - 2)) then (if (wrap64 ((l0.length : Int) - 2)) ≤ (l0.length : Int) then ((ramekinref5_Parity.f (l0.take ((wrap64 ((l0.length : Int) - 2)) : Int).toNat)).bind fun bt115 => (if (wrap64 ((l0.length : Int) - 2)) < (l0.length : Int) then (if (strOfNums bt115.1).toList = (strOfNums (rd_L1 l0 (wrap64 ((l0.length : Int) - 2)))).toList then (if 0 ≤ (wrap64 ((l0.length : Int) - 1)) then (if (wrap64 ((l0.length : Int) - 1)) < (l0.length : Int) then (some ((strOfNums bt115.2).toList == (strOfNums (rd_L1 l0 (wrap64 ((l0.length : Int) - 1)))).toList)) else (none)) else (none)) else (some false)) else (none))) else (none)) else (none)) else (some false))
set_option maxHeartbeats 8000000 in
set_option maxRecDepth 100000 in
theorem ramekinref5_Check.calls (A0 : Option Addr) (c0 : Nat) (l0 : List (List Int)) (r : Bool) (w : World) (hr0 : Kd.C (Kd.slice 5 (Kd.int .u8)) w A0 l0.length l0) (hc0 : l0.length ≤ c0) (h : ramekinref5_Check.f l0 = some r) :
    Calls Try.prog 20 #[.slice A0 l0.length c0] w fun e w' => e = .returned (.bool r) ∧ Below w.heap.size w w' := by
  have HR0 := Aside0.mk hr0
  have HC0 := Aside0.mk hc0
  clear hr0 hc0
  have HB := Aside0.mk (Below.refl w.heap.size w)
  have H : ((ramekinref5_even.f l0 4 16).bind fun t110 => (if t110 = true then (if 0 ≤ (wrap64 ((l0.length : Int) - 2)) then (if (wrap64 ((l0.length : Int) - 2)) ≤ (l0.length : Int) then ((ramekinref5_Parity.f (l0.take ((wrap64 ((l0.length : Int) - 2)) : Int).toNat)).bind fun bt115 => (if (wrap64 ((l0.length : Int) - 2)) < (l0.length : Int) then (if (strOfNums bt115.1).toList = (strOfNums (rd_L1 l0 (wrap64 ((l0.length : Int) - 2)))).toList then (if 0 ≤ (wrap64 ((l0.length : Int) - 1)) then (if (wrap64 ((l0.length : Int) - 1)) < (l0.length : Int) then (some ((strOfNums bt115.2).toList == (strOfNums (rd_L1 l0 (wrap64 ((l0.length : Int) - 1)))).toList)) else (none)) else (none)) else (some false)) else (none))) else (none)) else (none)) else (some false))) = some r := h
  clear h
  replace H := Option.bind_eq_some_iff.mp H
  obtain ⟨t110, A20, H⟩ := H
  replace H : (if t110 = true then (if 0 ≤ (wrap64 ((l0.length : Int) - 2)) then (if (wrap64 ((l0.length : Int) - 2)) ≤ (l0.length : Int) then ((ramekinref5_Parity.f (l0.take ((wrap64 ((l0.length : Int) - 2)) : Int).toNat)).bind fun bt115 => (if (wrap64 ((l0.length : Int) - 2)) < (l0.length : Int) then (if (strOfNums bt115.1).toList = (strOfNums (rd_L1 l0 (wrap64 ((l0.length : Int) - 2)))).toList then (if 0 ≤ (wrap64 ((l0.length : Int) - 1)) then (if (wrap64 ((l0.length : Int) - 1)) < (l0.length : Int) then (some ((strOfNums bt115.2).toList == (strOfNums (rd_L1 l0 (wrap64 ((l0.length : Int) - 1)))).toList)) else (none)) else (none)) else (some false)) else (none))) else (none)) else (none)) else (some false)) = some r := H
  have A2 := Aside0.mk A20
  clear A20
  by_cases c3 : t110 = true
  · subst c3
    have H1 : (if 0 ≤ (wrap64 ((l0.length : Int) - 2)) then (if (wrap64 ((l0.length : Int) - 2)) ≤ (l0.length : Int) then ((ramekinref5_Parity.f (l0.take ((wrap64 ((l0.length : Int) - 2)) : Int).toNat)).bind fun bt115 => (if (wrap64 ((l0.length : Int) - 2)) < (l0.length : Int) then (if (strOfNums bt115.1).toList = (strOfNums (rd_L1 l0 (wrap64 ((l0.length : Int) - 2)))).toList then (if 0 ≤ (wrap64 ((l0.length : Int) - 1)) then (if (wrap64 ((l0.length : Int) - 1)) < (l0.length : Int) then (some ((strOfNums bt115.2).toList == (strOfNums (rd_L1 l0 (wrap64 ((l0.length : Int) - 1)))).toList)) else (none)) else (none)) else (some false)) else (none))) else (none)) else (none)) = some r := by rw [if_pos rfl] at H; exact H
    clear H
    have H := H1
    clear H1
    obtain ⟨ji4, hji4⟩ : ∃ j_ : Int, (wrap64 ((l0.length : Int) - 2)) = j_ := ⟨_, rfl⟩
    replace H : (if 0 ≤ (ji4) then (if (ji4) ≤ (l0.length : Int) then ((ramekinref5_Parity.f (l0.take ((ji4) : Int).toNat)).bind fun bt115 => (if (ji4) < (l0.length : Int) then (if (strOfNums bt115.1).toList = (strOfNums (rd_L1 l0 (ji4))).toList then (if 0 ≤ (wrap64 ((l0.length : Int) - 1)) then (if (wrap64 ((l0.length : Int) - 1)) < (l0.length : Int) then (some ((strOfNums bt115.2).toList == (strOfNums (rd_L1 l0 (wrap64 ((l0.length : Int) - 1)))).toList)) else (none)) else (none)) else (some false)) else (none))) else (none)) else (none)) = some r := by first | (rw [hji4] at H; exact H) | (simp only [hji4] at H ⊢; exact H)
    (try rw [hji4] at A2)
    have hji4w : (IntKind.i64.wrap ((l0.length : Int) - 2)) = ji4 := (i64_w _).trans hji4
    by_cases c5 : 0 ≤ (ji4)
    · rw [if_pos c5] at H
      have c5b0 := eq_true c5
      have c5b1 : decide (0 ≤ (ji4)) = true := decide_eq_true c5
      clear c5
      by_cases c6 : (ji4) ≤ (l0.length : Int)
      · rw [if_pos c6] at H
        have c6b0 := eq_true c6
        have c6b1 : decide ((ji4) ≤ (l0.length : Int)) = true := decide_eq_true c6
        clear c6
        obtain ⟨y111, hy111⟩ : ∃ y_ : List (List Int), y_ = (l0.take ((ji4) : Int).toNat) := ⟨_, rfl⟩
        replace H : ((ramekinref5_Parity.f y111).bind fun bt115 => (if (ji4) < (l0.length : Int) then (if (strOfNums bt115.1).toList = (strOfNums (rd_L1 l0 (ji4))).toList then (if 0 ≤ (wrap64 ((l0.length : Int) - 1)) then (if (wrap64 ((l0.length : Int) - 1)) < (l0.length : Int) then (some ((strOfNums bt115.2).toList == (strOfNums (rd_L1 l0 (wrap64 ((l0.length : Int) - 1)))).toList)) else (none)) else (none)) else (some false)) else (none))) = some r := by first | (rw [hy111]; with_reducible exact H) | (have H2_ := (Option.bind_some _ _).symm.trans H; rw [hy111]; with_reducible exact H2_) | (have H2_ := (Option.bind_some _ _).symm.trans H; with_reducible exact H2_) | with_reducible exact H | (rw [hy111]; exact H) | exact H
        have Ny111 := Aside0.mk hy111
        clear hy111
        replace H := Option.bind_eq_some_iff.mp H
        obtain ⟨⟨t115, t116⟩, A70, H⟩ := H
        replace H : (if (ji4) < (l0.length : Int) then (if (strOfNums t115).toList = (strOfNums (rd_L1 l0 (ji4))).toList then (if 0 ≤ (wrap64 ((l0.length : Int) - 1)) then (if (wrap64 ((l0.length : Int) - 1)) < (l0.length : Int) then (some ((strOfNums t116).toList == (strOfNums (rd_L1 l0 (wrap64 ((l0.length : Int) - 1)))).toList)) else (none)) else (none)) else (some false)) else (none)) = some r := H
        have A7 := Aside0.mk A70
        clear A70
        by_cases c8 : (ji4) < (l0.length : Int)
        · rw [if_pos c8] at H
          have c8b0 : decide ((ji4) < (l0.length : Int)) = true := decide_eq_true c8
          clear c8
          by_cases c9 : (strOfNums t115).toList = (strOfNums (rd_L1 l0 (ji4))).toList
          · rw [if_pos c9] at H
            have c9b0 : ((strOfNums t115).toList == (strOfNums (rd_L1 l0 (ji4))).toList) = true := beq_iff_eq.mpr c9
            have c9b1 : ((strOfNums t115).toList != (strOfNums (rd_L1 l0 (ji4))).toList) = false := bne_eq_false_iff_eq.mpr c9
            clear c9
            obtain ⟨ji10, hji10⟩ : ∃ j_ : Int, (wrap64 ((l0.length : Int) - 1)) = j_ := ⟨_, rfl⟩
            replace H : (if 0 ≤ (ji10) then (if (ji10) < (l0.length : Int) then (some ((strOfNums t116).toList == (strOfNums (rd_L1 l0 (ji10))).toList)) else (none)) else (none)) = some r := by first | (rw [hji10] at H; exact H) | (simp only [hji10] at H ⊢; exact H)
            (try rw [hji10] at A2)
            (try rw [hji10] at A7)
            have hji10w : (IntKind.i64.wrap ((l0.length : Int) - 1)) = ji10 := (i64_w _).trans hji10
            by_cases c11 : 0 ≤ (ji10)
            · rw [if_pos c11] at H
              have c11b0 : decide (0 ≤ (ji10)) = true := decide_eq_true c11
              clear c11
              by_cases c12 : (ji10) < (l0.length : Int)
              · rw [if_pos c12] at H
                have c12b0 : decide ((ji10) < (l0.length : Int)) = true := decide_eq_true c12
                clear c12
                obtain rfl := Option.some.inj H
                go_enter Try.func20, Try.ntmps20
                go_wp2_with (first | (go_at_call 28; (with_reducible refine (ramekinref5_even.calls _ _ l0 4 16 true _ ?side1 ?side2 A2.out).mono ?_); (case side1 => repeat (first | exact HR0.out | (with_reducible refine Kd.C_alloc ?_ _) | (with_reducible refine Kd.C_drewN ?_ _) | (with_reducible refine Kd.C_drew ?_))); (case side2 => exact HC0.out); rintro e w13 ⟨rfl, hb⟩; have n0_ := Aside0.mk (below_step (by repeat (first | (with_reducible first | exact HB.out | apply below_alloc | apply pw_below_drewN | apply below_drew1) | exact HB.out)) hb); clear HB; have HB := n0_; clear n0_; (try clear hb); (try clear hb2); (try clear hk); (try clear hi); have q14 : ((ji4) : Int) ≤ ((l0.length : Int) : Int) := of_decide_eq_true (by first | (with_reducible assumption) | assumption); obtain ⟨i014, hi014, _, hsz14, _⟩ := info_parts info22; have hroom14 : l0.length ≤ c0 := HC0.out; have hC14 : Kd.C (Kd.slice 5 (Kd.int .u8)) _ A0 l0.length l0 := HR0.out; have hcut14 := cut_to (P := Try.prog) 25 22 .i64 Try.underlying25 hi014 A0 l0.length c0 (ji4) (of_decide_eq_true (by first | (with_reducible assumption) | assumption)) q14 hroom14; have hr14 := Kd.C_take (m := ((ji4) : Int).toNat) hC14 (by omega); have hy14 : y111.length = ((ji4) : Int).toNat := (by rw [Ny111.out, List.length_take]; omega); rw [← Ny111.out] at hr14; rw [← hy14] at hcut14; have HR114 := Aside0.mk hr14; have HC114 := Aside0.mk (show y111.length ≤ c0 from by omega); clear hr14 hC14 hroom14 hi014 hsz14; have KY14 := Aside0.mk hy14; clear hy14; replace q14 := eq_true q14) | (go_at_call 18; (with_reducible refine (ramekinref5_Parity.calls _ _ y111 t115 t116 _ ?side1 ?side2 A7.out).mono ?_); (case side1 => repeat (first | exact (Kd.C_below HR114.out HB.out) | (with_reducible refine Kd.C_alloc ?_ _) | (with_reducible refine Kd.C_drewN ?_ _) | (with_reducible refine Kd.C_drew ?_))); (case side2 => exact HC114.out); rintro e w15 ⟨v117, v119, rfl, ho0, ho1, hb⟩; have n0_ := Aside0.mk (Kd.R_lower ho0 (below_size (by repeat (first | (with_reducible first | exact HB.out | apply below_alloc | apply pw_below_drewN | apply below_drew1) | exact HB.out)))); have n1_ := Aside0.mk (Kd.R_lower ho1 (below_size (by repeat (first | (with_reducible first | exact HB.out | apply below_alloc | apply pw_below_drewN | apply below_drew1) | exact HB.out)))); have n2_ := Aside0.mk (below_step (by repeat (first | (with_reducible first | exact HB.out | apply below_alloc | apply pw_below_drewN | apply below_drew1) | exact HB.out)) hb); clear HB; have HO118 := n0_; have HO120 := n1_; have HB := n2_; clear n0_ n1_ n2_; (try clear hb); (try clear hb2); (try clear hk); (try clear hi); (try clear ho0); (try clear ho1); have hcv16 := own_string (P := Try.prog) Try.underlying22 Try.underlying5 Try.underlying9 (Kd.own_of_R HO118.out); have hcvq16 := fun nq_ => own_string (P := Try.prog) Try.underlying22 Try.underlying5 Try.underlying9 (pw_own_below (Kd.own_of_R HO118.out) (pw_below_drewN (Below.refl _ _) nq_)); have p121 : 0 ≤ ((ji4) : Int) := of_decide_eq_true (by first | (with_reducible assumption) | assumption); have q121 : (ji4) < (l0.length : Int) := of_decide_eq_true (by first | (with_reducible assumption) | assumption); obtain ⟨ad121, A121_0, c121_0, e121, hx121_0, hl121_0, hi121_0⟩ := at_L1 HR0.out (ji4) p121 q121; cases e121; replace hx121_0 := (HB.out.cell (World.block_lt_of_cell? w _ hx121_0)).trans hx121_0; have HR121_0 := Aside0.mk hi121_0; have HC121_0 := Aside0.mk hl121_0; clear hi121_0 hl121_0; replace p121 := eq_true p121; replace q121 := eq_true q121; have hcv17 := Kd.C_string (P := Try.prog) (A := A121_0) (c := c121_0) Try.underlying22 Try.underlying5 Try.underlying9 (Kd.C_below HR121_0.out HB.out); have hcvq17 := fun nq_ => Kd.C_string (P := Try.prog) (A := A121_0) (c := c121_0) Try.underlying22 Try.underlying5 Try.underlying9 (Kd.C_drewN (Kd.C_below HR121_0.out HB.out) nq_); have hcv18 := own_string (P := Try.prog) Try.underlying22 Try.underlying5 Try.underlying9 (Kd.own_of_R HO120.out); have hcvq18 := fun nq_ => own_string (P := Try.prog) Try.underlying22 Try.underlying5 Try.underlying9 (pw_own_below (Kd.own_of_R HO120.out) (pw_below_drewN (Below.refl _ _) nq_)); have p122 : 0 ≤ ((ji10) : Int) := of_decide_eq_true (by first | (with_reducible assumption) | assumption); have q122 : (ji10) < (l0.length : Int) := of_decide_eq_true (by first | (with_reducible assumption) | assumption); obtain ⟨ad122, A122_0, c122_0, e122, hx122_0, hl122_0, hi122_0⟩ := at_L1 HR0.out (ji10) p122 q122; obtain rfl : ad121 = ad122 := (by injection e122); replace hx122_0 := (HB.out.cell (World.block_lt_of_cell? w _ hx122_0)).trans hx122_0; have HR122_0 := Aside0.mk hi122_0; have HC122_0 := Aside0.mk hl122_0; clear hi122_0 hl122_0; replace p122 := eq_true p122; replace q122 := eq_true q122; have hcv19 := Kd.C_string (P := Try.prog) (A := A122_0) (c := c122_0) Try.underlying22 Try.underlying5 Try.underlying9 (Kd.C_below HR122_0.out HB.out); have hcvq19 := fun nq_ => Kd.C_string (P := Try.prog) (A := A122_0) (c := c122_0) Try.underlying22 Try.underlying5 Try.underlying9 (Kd.C_drewN (Kd.C_below HR122_0.out HB.out) nq_)))
                repeat (go_quiet (first | (go_at_call 28; (with_reducible refine (ramekinref5_even.calls _ _ l0 4 16 true _ ?side1 ?side2 A2.out).mono ?_); (case side1 => repeat (first | exact HR0.out | (with_reducible refine Kd.C_alloc ?_ _) | (with_reducible refine Kd.C_drewN ?_ _) | (with_reducible refine Kd.C_drew ?_))); (case side2 => exact HC0.out); rintro e w13 ⟨rfl, hb⟩; have n0_ := Aside0.mk (below_step (by repeat (first | (with_reducible first | exact HB.out | apply below_alloc | apply pw_below_drewN | apply below_drew1) | exact HB.out)) hb); clear HB; have HB := n0_; clear n0_; (try clear hb); (try clear hb2); (try clear hk); (try clear hi); have q14 : ((ji4) : Int) ≤ ((l0.length : Int) : Int) := of_decide_eq_true (by first | (with_reducible assumption) | assumption); obtain ⟨i014, hi014, _, hsz14, _⟩ := info_parts info22; have hroom14 : l0.length ≤ c0 := HC0.out; have hC14 : Kd.C (Kd.slice 5 (Kd.int .u8)) _ A0 l0.length l0 := HR0.out; have hcut14 := cut_to (P := Try.prog) 25 22 .i64 Try.underlying25 hi014 A0 l0.length c0 (ji4) (of_decide_eq_true (by first | (with_reducible assumption) | assumption)) q14 hroom14; have hr14 := Kd.C_take (m := ((ji4) : Int).toNat) hC14 (by omega); have hy14 : y111.length = ((ji4) : Int).toNat := (by rw [Ny111.out, List.length_take]; omega); rw [← Ny111.out] at hr14; rw [← hy14] at hcut14; have HR114 := Aside0.mk hr14; have HC114 := Aside0.mk (show y111.length ≤ c0 from by omega); clear hr14 hC14 hroom14 hi014 hsz14; have KY14 := Aside0.mk hy14; clear hy14; replace q14 := eq_true q14) | (go_at_call 18; (with_reducible refine (ramekinref5_Parity.calls _ _ y111 t115 t116 _ ?side1 ?side2 A7.out).mono ?_); (case side1 => repeat (first | exact (Kd.C_below HR114.out HB.out) | (with_reducible refine Kd.C_alloc ?_ _) | (with_reducible refine Kd.C_drewN ?_ _) | (with_reducible refine Kd.C_drew ?_))); (case side2 => exact HC114.out); rintro e w15 ⟨v117, v119, rfl, ho0, ho1, hb⟩; have n0_ := Aside0.mk (Kd.R_lower ho0 (below_size (by repeat (first | (with_reducible first | exact HB.out | apply below_alloc | apply pw_below_drewN | apply below_drew1) | exact HB.out)))); have n1_ := Aside0.mk (Kd.R_lower ho1 (below_size (by repeat (first | (with_reducible first | exact HB.out | apply below_alloc | apply pw_below_drewN | apply below_drew1) | exact HB.out)))); have n2_ := Aside0.mk (below_step (by repeat (first | (with_reducible first | exact HB.out | apply below_alloc | apply pw_below_drewN | apply below_drew1) | exact HB.out)) hb); clear HB; have HO118 := n0_; have HO120 := n1_; have HB := n2_; clear n0_ n1_ n2_; (try clear hb); (try clear hb2); (try clear hk); (try clear hi); (try clear ho0); (try clear ho1); have hcv16 := own_string (P := Try.prog) Try.underlying22 Try.underlying5 Try.underlying9 (Kd.own_of_R HO118.out); have hcvq16 := fun nq_ => own_string (P := Try.prog) Try.underlying22 Try.underlying5 Try.underlying9 (pw_own_below (Kd.own_of_R HO118.out) (pw_below_drewN (Below.refl _ _) nq_)); have p121 : 0 ≤ ((ji4) : Int) := of_decide_eq_true (by first | (with_reducible assumption) | assumption); have q121 : (ji4) < (l0.length : Int) := of_decide_eq_true (by first | (with_reducible assumption) | assumption); obtain ⟨ad121, A121_0, c121_0, e121, hx121_0, hl121_0, hi121_0⟩ := at_L1 HR0.out (ji4) p121 q121; cases e121; replace hx121_0 := (HB.out.cell (World.block_lt_of_cell? w _ hx121_0)).trans hx121_0; have HR121_0 := Aside0.mk hi121_0; have HC121_0 := Aside0.mk hl121_0; clear hi121_0 hl121_0; replace p121 := eq_true p121; replace q121 := eq_true q121; have hcv17 := Kd.C_string (P := Try.prog) (A := A121_0) (c := c121_0) Try.underlying22 Try.underlying5 Try.underlying9 (Kd.C_below HR121_0.out HB.out); have hcvq17 := fun nq_ => Kd.C_string (P := Try.prog) (A := A121_0) (c := c121_0) Try.underlying22 Try.underlying5 Try.underlying9 (Kd.C_drewN (Kd.C_below HR121_0.out HB.out) nq_); have hcv18 := own_string (P := Try.prog) Try.underlying22 Try.underlying5 Try.underlying9 (Kd.own_of_R HO120.out); have hcvq18 := fun nq_ => own_string (P := Try.prog) Try.underlying22 Try.underlying5 Try.underlying9 (pw_own_below (Kd.own_of_R HO120.out) (pw_below_drewN (Below.refl _ _) nq_)); have p122 : 0 ≤ ((ji10) : Int) := of_decide_eq_true (by first | (with_reducible assumption) | assumption); have q122 : (ji10) < (l0.length : Int) := of_decide_eq_true (by first | (with_reducible assumption) | assumption); obtain ⟨ad122, A122_0, c122_0, e122, hx122_0, hl122_0, hi122_0⟩ := at_L1 HR0.out (ji10) p122 q122; obtain rfl : ad121 = ad122 := (by injection e122); replace hx122_0 := (HB.out.cell (World.block_lt_of_cell? w _ hx122_0)).trans hx122_0; have HR122_0 := Aside0.mk hi122_0; have HC122_0 := Aside0.mk hl122_0; clear hi122_0 hl122_0; replace p122 := eq_true p122; replace q122 := eq_true q122; have hcv19 := Kd.C_string (P := Try.prog) (A := A122_0) (c := c122_0) Try.underlying22 Try.underlying5 Try.underlying9 (Kd.C_below HR122_0.out HB.out); have hcvq19 := fun nq_ => Kd.C_string (P := Try.prog) (A := A122_0) (c := c122_0) Try.underlying22 Try.underlying5 Try.underlying9 (Kd.C_drewN (Kd.C_below HR122_0.out HB.out) nq_))); try go_wp2_with (first | (go_at_call 28; (with_reducible refine (ramekinref5_even.calls _ _ l0 4 16 true _ ?side1 ?side2 A2.out).mono ?_); (case side1 => repeat (first | exact HR0.out | (with_reducible refine Kd.C_alloc ?_ _) | (with_reducible refine Kd.C_drewN ?_ _) | (with_reducible refine Kd.C_drew ?_))); (case side2 => exact HC0.out); rintro e w13 ⟨rfl, hb⟩; have n0_ := Aside0.mk (below_step (by repeat (first | (with_reducible first | exact HB.out | apply below_alloc | apply pw_below_drewN | apply below_drew1) | exact HB.out)) hb); clear HB; have HB := n0_; clear n0_; (try clear hb); (try clear hb2); (try clear hk); (try clear hi); have q14 : ((ji4) : Int) ≤ ((l0.length : Int) : Int) := of_decide_eq_true (by first | (with_reducible assumption) | assumption); obtain ⟨i014, hi014, _, hsz14, _⟩ := info_parts info22; have hroom14 : l0.length ≤ c0 := HC0.out; have hC14 : Kd.C (Kd.slice 5 (Kd.int .u8)) _ A0 l0.length l0 := HR0.out; have hcut14 := cut_to (P := Try.prog) 25 22 .i64 Try.underlying25 hi014 A0 l0.length c0 (ji4) (of_decide_eq_true (by first | (with_reducible assumption) | assumption)) q14 hroom14; have hr14 := Kd.C_take (m := ((ji4) : Int).toNat) hC14 (by omega); have hy14 : y111.length = ((ji4) : Int).toNat := (by rw [Ny111.out, List.length_take]; omega); rw [← Ny111.out] at hr14; rw [← hy14] at hcut14; have HR114 := Aside0.mk hr14; have HC114 := Aside0.mk (show y111.length ≤ c0 from by omega); clear hr14 hC14 hroom14 hi014 hsz14; have KY14 := Aside0.mk hy14; clear hy14; replace q14 := eq_true q14) | (go_at_call 18; (with_reducible refine (ramekinref5_Parity.calls _ _ y111 t115 t116 _ ?side1 ?side2 A7.out).mono ?_); (case side1 => repeat (first | exact (Kd.C_below HR114.out HB.out) | (with_reducible refine Kd.C_alloc ?_ _) | (with_reducible refine Kd.C_drewN ?_ _) | (with_reducible refine Kd.C_drew ?_))); (case side2 => exact HC114.out); rintro e w15 ⟨v117, v119, rfl, ho0, ho1, hb⟩; have n0_ := Aside0.mk (Kd.R_lower ho0 (below_size (by repeat (first | (with_reducible first | exact HB.out | apply below_alloc | apply pw_below_drewN | apply below_drew1) | exact HB.out)))); have n1_ := Aside0.mk (Kd.R_lower ho1 (below_size (by repeat (first | (with_reducible first | exact HB.out | apply below_alloc | apply pw_below_drewN | apply below_drew1) | exact HB.out)))); have n2_ := Aside0.mk (below_step (by repeat (first | (with_reducible first | exact HB.out | apply below_alloc | apply pw_below_drewN | apply below_drew1) | exact HB.out)) hb); clear HB; have HO118 := n0_; have HO120 := n1_; have HB := n2_; clear n0_ n1_ n2_; (try clear hb); (try clear hb2); (try clear hk); (try clear hi); (try clear ho0); (try clear ho1); have hcv16 := own_string (P := Try.prog) Try.underlying22 Try.underlying5 Try.underlying9 (Kd.own_of_R HO118.out); have hcvq16 := fun nq_ => own_string (P := Try.prog) Try.underlying22 Try.underlying5 Try.underlying9 (pw_own_below (Kd.own_of_R HO118.out) (pw_below_drewN (Below.refl _ _) nq_)); have p121 : 0 ≤ ((ji4) : Int) := of_decide_eq_true (by first | (with_reducible assumption) | assumption); have q121 : (ji4) < (l0.length : Int) := of_decide_eq_true (by first | (with_reducible assumption) | assumption); obtain ⟨ad121, A121_0, c121_0, e121, hx121_0, hl121_0, hi121_0⟩ := at_L1 HR0.out (ji4) p121 q121; cases e121; replace hx121_0 := (HB.out.cell (World.block_lt_of_cell? w _ hx121_0)).trans hx121_0; have HR121_0 := Aside0.mk hi121_0; have HC121_0 := Aside0.mk hl121_0; clear hi121_0 hl121_0; replace p121 := eq_true p121; replace q121 := eq_true q121; have hcv17 := Kd.C_string (P := Try.prog) (A := A121_0) (c := c121_0) Try.underlying22 Try.underlying5 Try.underlying9 (Kd.C_below HR121_0.out HB.out); have hcvq17 := fun nq_ => Kd.C_string (P := Try.prog) (A := A121_0) (c := c121_0) Try.underlying22 Try.underlying5 Try.underlying9 (Kd.C_drewN (Kd.C_below HR121_0.out HB.out) nq_); have hcv18 := own_string (P := Try.prog) Try.underlying22 Try.underlying5 Try.underlying9 (Kd.own_of_R HO120.out); have hcvq18 := fun nq_ => own_string (P := Try.prog) Try.underlying22 Try.underlying5 Try.underlying9 (pw_own_below (Kd.own_of_R HO120.out) (pw_below_drewN (Below.refl _ _) nq_)); have p122 : 0 ≤ ((ji10) : Int) := of_decide_eq_true (by first | (with_reducible assumption) | assumption); have q122 : (ji10) < (l0.length : Int) := of_decide_eq_true (by first | (with_reducible assumption) | assumption); obtain ⟨ad122, A122_0, c122_0, e122, hx122_0, hl122_0, hi122_0⟩ := at_L1 HR0.out (ji10) p122 q122; obtain rfl : ad121 = ad122 := (by injection e122); replace hx122_0 := (HB.out.cell (World.block_lt_of_cell? w _ hx122_0)).trans hx122_0; have HR122_0 := Aside0.mk hi122_0; have HC122_0 := Aside0.mk hl122_0; clear hi122_0 hl122_0; replace p122 := eq_true p122; replace q122 := eq_true q122; have hcv19 := Kd.C_string (P := Try.prog) (A := A122_0) (c := c122_0) Try.underlying22 Try.underlying5 Try.underlying9 (Kd.C_below HR122_0.out HB.out); have hcvq19 := fun nq_ => Kd.C_string (P := Try.prog) (A := A122_0) (c := c122_0) Try.underlying22 Try.underlying5 Try.underlying9 (Kd.C_drewN (Kd.C_below HR122_0.out HB.out) nq_))))
                go_ret
                exact ⟨by first | rfl | (simp [errW_none, errW_some] <;> rfl) | (simp only [← hji4, ← hji10]; first | rfl | (simp [errW_none, errW_some] <;> rfl)) | (simp [*, errW_none, errW_some] <;> rfl), by repeat (first | (with_reducible first | exact HB.out | apply below_alloc | apply pw_below_drewN | apply below_drew1) | exact HB.out)⟩
              · rw [if_neg c12] at H
                exact absurd H (by simp)
            · rw [if_neg c11] at H
              exact absurd H (by simp)
          · rw [if_neg c9] at H
            have c9b0 : ((strOfNums t115).toList == (strOfNums (rd_L1 l0 (ji4))).toList) = false := beq_eq_false_iff_ne.mpr c9
            have c9b1 : ((strOfNums t115).toList != (strOfNums (rd_L1 l0 (ji4))).toList) = true := bne_iff_ne.mpr c9
            obtain rfl := Option.some.inj H
            go_enter Try.func20, Try.ntmps20
            go_wp2_with (first | (go_at_call 28; (with_reducible refine (ramekinref5_even.calls _ _ l0 4 16 true _ ?side1 ?side2 A2.out).mono ?_); (case side1 => repeat (first | exact HR0.out | (with_reducible refine Kd.C_alloc ?_ _) | (with_reducible refine Kd.C_drewN ?_ _) | (with_reducible refine Kd.C_drew ?_))); (case side2 => exact HC0.out); rintro e w20 ⟨rfl, hb⟩; have n0_ := Aside0.mk (below_step (by repeat (first | (with_reducible first | exact HB.out | apply below_alloc | apply pw_below_drewN | apply below_drew1) | exact HB.out)) hb); clear HB; have HB := n0_; clear n0_; (try clear hb); (try clear hb2); (try clear hk); (try clear hi); have q21 : ((ji4) : Int) ≤ ((l0.length : Int) : Int) := of_decide_eq_true (by first | (with_reducible assumption) | assumption); obtain ⟨i021, hi021, _, hsz21, _⟩ := info_parts info22; have hroom21 : l0.length ≤ c0 := HC0.out; have hC21 : Kd.C (Kd.slice 5 (Kd.int .u8)) _ A0 l0.length l0 := HR0.out; have hcut21 := cut_to (P := Try.prog) 25 22 .i64 Try.underlying25 hi021 A0 l0.length c0 (ji4) (of_decide_eq_true (by first | (with_reducible assumption) | assumption)) q21 hroom21; have hr21 := Kd.C_take (m := ((ji4) : Int).toNat) hC21 (by omega); have hy21 : y111.length = ((ji4) : Int).toNat := (by rw [Ny111.out, List.length_take]; omega); rw [← Ny111.out] at hr21; rw [← hy21] at hcut21; have HR114 := Aside0.mk hr21; have HC114 := Aside0.mk (show y111.length ≤ c0 from by omega); clear hr21 hC21 hroom21 hi021 hsz21; have KY21 := Aside0.mk hy21; clear hy21; replace q21 := eq_true q21) | (go_at_call 18; (with_reducible refine (ramekinref5_Parity.calls _ _ y111 t115 t116 _ ?side1 ?side2 A7.out).mono ?_); (case side1 => repeat (first | exact (Kd.C_below HR114.out HB.out) | (with_reducible refine Kd.C_alloc ?_ _) | (with_reducible refine Kd.C_drewN ?_ _) | (with_reducible refine Kd.C_drew ?_))); (case side2 => exact HC114.out); rintro e w22 ⟨v117, v119, rfl, ho0, ho1, hb⟩; have n0_ := Aside0.mk (Kd.R_lower ho0 (below_size (by repeat (first | (with_reducible first | exact HB.out | apply below_alloc | apply pw_below_drewN | apply below_drew1) | exact HB.out)))); have n1_ := Aside0.mk (Kd.R_lower ho1 (below_size (by repeat (first | (with_reducible first | exact HB.out | apply below_alloc | apply pw_below_drewN | apply below_drew1) | exact HB.out)))); have n2_ := Aside0.mk (below_step (by repeat (first | (with_reducible first | exact HB.out | apply below_alloc | apply pw_below_drewN | apply below_drew1) | exact HB.out)) hb); clear HB; have HO118 := n0_; have HO120 := n1_; have HB := n2_; clear n0_ n1_ n2_; (try clear hb); (try clear hb2); (try clear hk); (try clear hi); (try clear ho0); (try clear ho1); have hcv23 := own_string (P := Try.prog) Try.underlying22 Try.underlying5 Try.underlying9 (Kd.own_of_R HO118.out); have hcvq23 := fun nq_ => own_string (P := Try.prog) Try.underlying22 Try.underlying5 Try.underlying9 (pw_own_below (Kd.own_of_R HO118.out) (pw_below_drewN (Below.refl _ _) nq_)); have p121 : 0 ≤ ((ji4) : Int) := of_decide_eq_true (by first | (with_reducible assumption) | assumption); have q121 : (ji4) < (l0.length : Int) := of_decide_eq_true (by first | (with_reducible assumption) | assumption); obtain ⟨ad121, A121_0, c121_0, e121, hx121_0, hl121_0, hi121_0⟩ := at_L1 HR0.out (ji4) p121 q121; cases e121; replace hx121_0 := (HB.out.cell (World.block_lt_of_cell? w _ hx121_0)).trans hx121_0; have HR121_0 := Aside0.mk hi121_0; have HC121_0 := Aside0.mk hl121_0; clear hi121_0 hl121_0; replace p121 := eq_true p121; replace q121 := eq_true q121; have hcv24 := Kd.C_string (P := Try.prog) (A := A121_0) (c := c121_0) Try.underlying22 Try.underlying5 Try.underlying9 (Kd.C_below HR121_0.out HB.out); have hcvq24 := fun nq_ => Kd.C_string (P := Try.prog) (A := A121_0) (c := c121_0) Try.underlying22 Try.underlying5 Try.underlying9 (Kd.C_drewN (Kd.C_below HR121_0.out HB.out) nq_)))
            repeat (go_quiet (first | (go_at_call 28; (with_reducible refine (ramekinref5_even.calls _ _ l0 4 16 true _ ?side1 ?side2 A2.out).mono ?_); (case side1 => repeat (first | exact HR0.out | (with_reducible refine Kd.C_alloc ?_ _) | (with_reducible refine Kd.C_drewN ?_ _) | (with_reducible refine Kd.C_drew ?_))); (case side2 => exact HC0.out); rintro e w20 ⟨rfl, hb⟩; have n0_ := Aside0.mk (below_step (by repeat (first | (with_reducible first | exact HB.out | apply below_alloc | apply pw_below_drewN | apply below_drew1) | exact HB.out)) hb); clear HB; have HB := n0_; clear n0_; (try clear hb); (try clear hb2); (try clear hk); (try clear hi); have q21 : ((ji4) : Int) ≤ ((l0.length : Int) : Int) := of_decide_eq_true (by first | (with_reducible assumption) | assumption); obtain ⟨i021, hi021, _, hsz21, _⟩ := info_parts info22; have hroom21 : l0.length ≤ c0 := HC0.out; have hC21 : Kd.C (Kd.slice 5 (Kd.int .u8)) _ A0 l0.length l0 := HR0.out; have hcut21 := cut_to (P := Try.prog) 25 22 .i64 Try.underlying25 hi021 A0 l0.length c0 (ji4) (of_decide_eq_true (by first | (with_reducible assumption) | assumption)) q21 hroom21; have hr21 := Kd.C_take (m := ((ji4) : Int).toNat) hC21 (by omega); have hy21 : y111.length = ((ji4) : Int).toNat := (by rw [Ny111.out, List.length_take]; omega); rw [← Ny111.out] at hr21; rw [← hy21] at hcut21; have HR114 := Aside0.mk hr21; have HC114 := Aside0.mk (show y111.length ≤ c0 from by omega); clear hr21 hC21 hroom21 hi021 hsz21; have KY21 := Aside0.mk hy21; clear hy21; replace q21 := eq_true q21) | (go_at_call 18; (with_reducible refine (ramekinref5_Parity.calls _ _ y111 t115 t116 _ ?side1 ?side2 A7.out).mono ?_); (case side1 => repeat (first | exact (Kd.C_below HR114.out HB.out) | (with_reducible refine Kd.C_alloc ?_ _) | (with_reducible refine Kd.C_drewN ?_ _) | (with_reducible refine Kd.C_drew ?_))); (case side2 => exact HC114.out); rintro e w22 ⟨v117, v119, rfl, ho0, ho1, hb⟩; have n0_ := Aside0.mk (Kd.R_lower ho0 (below_size (by repeat (first | (with_reducible first | exact HB.out | apply below_alloc | apply pw_below_drewN | apply below_drew1) | exact HB.out)))); have n1_ := Aside0.mk (Kd.R_lower ho1 (below_size (by repeat (first | (with_reducible first | exact HB.out | apply below_alloc | apply pw_below_drewN | apply below_drew1) | exact HB.out)))); have n2_ := Aside0.mk (below_step (by repeat (first | (with_reducible first | exact HB.out | apply below_alloc | apply pw_below_drewN | apply below_drew1) | exact HB.out)) hb); clear HB; have HO118 := n0_; have HO120 := n1_; have HB := n2_; clear n0_ n1_ n2_; (try clear hb); (try clear hb2); (try clear hk); (try clear hi); (try clear ho0); (try clear ho1); have hcv23 := own_string (P := Try.prog) Try.underlying22 Try.underlying5 Try.underlying9 (Kd.own_of_R HO118.out); have hcvq23 := fun nq_ => own_string (P := Try.prog) Try.underlying22 Try.underlying5 Try.underlying9 (pw_own_below (Kd.own_of_R HO118.out) (pw_below_drewN (Below.refl _ _) nq_)); have p121 : 0 ≤ ((ji4) : Int) := of_decide_eq_true (by first | (with_reducible assumption) | assumption); have q121 : (ji4) < (l0.length : Int) := of_decide_eq_true (by first | (with_reducible assumption) | assumption); obtain ⟨ad121, A121_0, c121_0, e121, hx121_0, hl121_0, hi121_0⟩ := at_L1 HR0.out (ji4) p121 q121; cases e121; replace hx121_0 := (HB.out.cell (World.block_lt_of_cell? w _ hx121_0)).trans hx121_0; have HR121_0 := Aside0.mk hi121_0; have HC121_0 := Aside0.mk hl121_0; clear hi121_0 hl121_0; replace p121 := eq_true p121; replace q121 := eq_true q121; have hcv24 := Kd.C_string (P := Try.prog) (A := A121_0) (c := c121_0) Try.underlying22 Try.underlying5 Try.underlying9 (Kd.C_below HR121_0.out HB.out); have hcvq24 := fun nq_ => Kd.C_string (P := Try.prog) (A := A121_0) (c := c121_0) Try.underlying22 Try.underlying5 Try.underlying9 (Kd.C_drewN (Kd.C_below HR121_0.out HB.out) nq_))); try go_wp2_with (first | (go_at_call 28; (with_reducible refine (ramekinref5_even.calls _ _ l0 4 16 true _ ?side1 ?side2 A2.out).mono ?_); (case side1 => repeat (first | exact HR0.out | (with_reducible refine Kd.C_alloc ?_ _) | (with_reducible refine Kd.C_drewN ?_ _) | (with_reducible refine Kd.C_drew ?_))); (case side2 => exact HC0.out); rintro e w20 ⟨rfl, hb⟩; have n0_ := Aside0.mk (below_step (by repeat (first | (with_reducible first | exact HB.out | apply below_alloc | apply pw_below_drewN | apply below_drew1) | exact HB.out)) hb); clear HB; have HB := n0_; clear n0_; (try clear hb); (try clear hb2); (try clear hk); (try clear hi); have q21 : ((ji4) : Int) ≤ ((l0.length : Int) : Int) := of_decide_eq_true (by first | (with_reducible assumption) | assumption); obtain ⟨i021, hi021, _, hsz21, _⟩ := info_parts info22; have hroom21 : l0.length ≤ c0 := HC0.out; have hC21 : Kd.C (Kd.slice 5 (Kd.int .u8)) _ A0 l0.length l0 := HR0.out; have hcut21 := cut_to (P := Try.prog) 25 22 .i64 Try.underlying25 hi021 A0 l0.length c0 (ji4) (of_decide_eq_true (by first | (with_reducible assumption) | assumption)) q21 hroom21; have hr21 := Kd.C_take (m := ((ji4) : Int).toNat) hC21 (by omega); have hy21 : y111.length = ((ji4) : Int).toNat := (by rw [Ny111.out, List.length_take]; omega); rw [← Ny111.out] at hr21; rw [← hy21] at hcut21; have HR114 := Aside0.mk hr21; have HC114 := Aside0.mk (show y111.length ≤ c0 from by omega); clear hr21 hC21 hroom21 hi021 hsz21; have KY21 := Aside0.mk hy21; clear hy21; replace q21 := eq_true q21) | (go_at_call 18; (with_reducible refine (ramekinref5_Parity.calls _ _ y111 t115 t116 _ ?side1 ?side2 A7.out).mono ?_); (case side1 => repeat (first | exact (Kd.C_below HR114.out HB.out) | (with_reducible refine Kd.C_alloc ?_ _) | (with_reducible refine Kd.C_drewN ?_ _) | (with_reducible refine Kd.C_drew ?_))); (case side2 => exact HC114.out); rintro e w22 ⟨v117, v119, rfl, ho0, ho1, hb⟩; have n0_ := Aside0.mk (Kd.R_lower ho0 (below_size (by repeat (first | (with_reducible first | exact HB.out | apply below_alloc | apply pw_below_drewN | apply below_drew1) | exact HB.out)))); have n1_ := Aside0.mk (Kd.R_lower ho1 (below_size (by repeat (first | (with_reducible first | exact HB.out | apply below_alloc | apply pw_below_drewN | apply below_drew1) | exact HB.out)))); have n2_ := Aside0.mk (below_step (by repeat (first | (with_reducible first | exact HB.out | apply below_alloc | apply pw_below_drewN | apply below_drew1) | exact HB.out)) hb); clear HB; have HO118 := n0_; have HO120 := n1_; have HB := n2_; clear n0_ n1_ n2_; (try clear hb); (try clear hb2); (try clear hk); (try clear hi); (try clear ho0); (try clear ho1); have hcv23 := own_string (P := Try.prog) Try.underlying22 Try.underlying5 Try.underlying9 (Kd.own_of_R HO118.out); have hcvq23 := fun nq_ => own_string (P := Try.prog) Try.underlying22 Try.underlying5 Try.underlying9 (pw_own_below (Kd.own_of_R HO118.out) (pw_below_drewN (Below.refl _ _) nq_)); have p121 : 0 ≤ ((ji4) : Int) := of_decide_eq_true (by first | (with_reducible assumption) | assumption); have q121 : (ji4) < (l0.length : Int) := of_decide_eq_true (by first | (with_reducible assumption) | assumption); obtain ⟨ad121, A121_0, c121_0, e121, hx121_0, hl121_0, hi121_0⟩ := at_L1 HR0.out (ji4) p121 q121; cases e121; replace hx121_0 := (HB.out.cell (World.block_lt_of_cell? w _ hx121_0)).trans hx121_0; have HR121_0 := Aside0.mk hi121_0; have HC121_0 := Aside0.mk hl121_0; clear hi121_0 hl121_0; replace p121 := eq_true p121; replace q121 := eq_true q121; have hcv24 := Kd.C_string (P := Try.prog) (A := A121_0) (c := c121_0) Try.underlying22 Try.underlying5 Try.underlying9 (Kd.C_below HR121_0.out HB.out); have hcvq24 := fun nq_ => Kd.C_string (P := Try.prog) (A := A121_0) (c := c121_0) Try.underlying22 Try.underlying5 Try.underlying9 (Kd.C_drewN (Kd.C_below HR121_0.out HB.out) nq_))))
            go_ret
            exact ⟨by first | rfl | (simp [errW_none, errW_some] <;> rfl) | (simp only [← hji4]; first | rfl | (simp [errW_none, errW_some] <;> rfl)) | (simp [*, errW_none, errW_some] <;> rfl), by repeat (first | (with_reducible first | exact HB.out | apply below_alloc | apply pw_below_drewN | apply below_drew1) | exact HB.out)⟩
        · rw [if_neg c8] at H
          exact absurd H (by simp)
      · rw [if_neg c6] at H
        exact absurd H (by simp)
    · rw [if_neg c5] at H
      exact absurd H (by simp)
  · replace c3 := Bool.eq_false_iff.mpr c3
    subst c3
    have H1 : (some false) = some r := by rw [if_neg (show ¬ (false = true) by decide)] at H; exact H
    clear H
    have H := H1
    clear H1
    obtain rfl := Option.some.inj H
    go_enter Try.func20, Try.ntmps20
    go_wp2_with (first | (go_at_call 28; (with_reducible refine (ramekinref5_even.calls _ _ l0 4 16 false _ ?side1 ?side2 A2.out).mono ?_); (case side1 => repeat (first | exact HR0.out | (with_reducible refine Kd.C_alloc ?_ _) | (with_reducible refine Kd.C_drewN ?_ _) | (with_reducible refine Kd.C_drew ?_))); (case side2 => exact HC0.out); rintro e w25 ⟨rfl, hb⟩; have n0_ := Aside0.mk (below_step (by repeat (first | (with_reducible first | exact HB.out | apply below_alloc | apply pw_below_drewN | apply below_drew1) | exact HB.out)) hb); clear HB; have HB := n0_; clear n0_; (try clear hb); (try clear hb2); (try clear hk); (try clear hi)))
    repeat (go_quiet (first | (go_at_call 28; (with_reducible refine (ramekinref5_even.calls _ _ l0 4 16 false _ ?side1 ?side2 A2.out).mono ?_); (case side1 => repeat (first | exact HR0.out | (with_reducible refine Kd.C_alloc ?_ _) | (with_reducible refine Kd.C_drewN ?_ _) | (with_reducible refine Kd.C_drew ?_))); (case side2 => exact HC0.out); rintro e w25 ⟨rfl, hb⟩; have n0_ := Aside0.mk (below_step (by repeat (first | (with_reducible first | exact HB.out | apply below_alloc | apply pw_below_drewN | apply below_drew1) | exact HB.out)) hb); clear HB; have HB := n0_; clear n0_; (try clear hb); (try clear hb2); (try clear hk); (try clear hi))); try go_wp2_with (first | (go_at_call 28; (with_reducible refine (ramekinref5_even.calls _ _ l0 4 16 false _ ?side1 ?side2 A2.out).mono ?_); (case side1 => repeat (first | exact HR0.out | (with_reducible refine Kd.C_alloc ?_ _) | (with_reducible refine Kd.C_drewN ?_ _) | (with_reducible refine Kd.C_drew ?_))); (case side2 => exact HC0.out); rintro e w25 ⟨rfl, hb⟩; have n0_ := Aside0.mk (below_step (by repeat (first | (with_reducible first | exact HB.out | apply below_alloc | apply pw_below_drewN | apply below_drew1) | exact HB.out)) hb); clear HB; have HB := n0_; clear n0_; (try clear hb); (try clear hb2); (try clear hk); (try clear hi))))
    go_ret
    exact ⟨by first | rfl | (simp [errW_none, errW_some] <;> rfl) | (simp [*, errW_none, errW_some] <;> rfl), by repeat (first | (with_reducible first | exact HB.out | apply below_alloc | apply pw_below_drewN | apply below_drew1) | exact HB.out)⟩

end Go.Proofs.Ytdbnladpogpiiaa.PRc
/-
  Any rows' parities and checks: the program's and the document's are the same; rows of which one byte was turned are not right.
-/
namespace Go.Proofs.Ytdbnladpogpiiaa.Pe
open Go.RowKit Go.Proofs.YtdbnladpogpiiaaW.PrintWords
open Go.Proofs.Ytdbnladpogpiiaa.Fld Go.Proofs.Ytdbnladpogpiiaa.Pl Go.Proofs.Ytdbnladpogpiiaa.Ot Go.Proofs.Ytdbnladpogpiiaa.Kp Go.Proofs.Ytdbnladpogpiiaa.Fw Go.Proofs.Ytdbnladpogpiiaa.Co Go.Proofs.Ytdbnladpogpiiaa.Cw Go.Proofs.Ytdbnladpogpiiaa.Cd Go.Proofs.Ytdbnladpogpiiaa.Rf
set_option linter.unusedSimpArgs false
set_option linter.unusedVariables false
def fewB (L : List (List Int)) : Bool := L.all (fun r => decide (r.length ≤ 60)) && decide (L.length ≤ 20)
theorem few_l0 (L : List (List Int)) (hm : L.length ≤ 9223372036854775807) : ∀ d i : Nat, L.length - i = d → i ≤ L.length → Ev (fun k => PRq.ramekinlaw5_Few.l0 k L (i : Int)) ((L.drop i).all (fun r => decide (r.length ≤ 60)) && decide (L.length ≤ 20))
  | 0, i, hd, hi => by
    obtain rfl : i = L.length := by omega
    refine Ev.step (f := fun _ => some (decide ((L.length : Int) ≤ 20))) (fun k => ?_) ?_
    · rw [PRq.ramekinlaw5_Few.l0, if_neg (by omega)]
    · rw [List.drop_length, List.all_nil, Bool.true_and]
      have e : decide ((L.length : Int) ≤ 20) = decide (L.length ≤ 20) := by
        by_cases h : L.length ≤ 20
        · rw [decide_eq_true h, decide_eq_true (by omega)]
        · rw [decide_eq_false h, decide_eq_false (by omega)]
      rw [e]
      exact Ev.now _
  | d + 1, i, hd, hi => by
    have hil : i < L.length := by omega
    have hdr : L.drop i = L[i] :: L.drop (i + 1) := List.drop_eq_getElem_cons hil
    by_cases h : L[i].length ≤ 60
    · refine Ev.step (f := fun k => PRq.ramekinlaw5_Few.l0 k L ((i + 1 : Nat) : Int)) (fun k => ?_) ?_
      · rw [PRq.ramekinlaw5_Few.l0, if_pos (by omega), if_pos (by omega), rdL_nat, row_lt hil, if_neg (by omega), w64 (by omega) (by omega)]; rfl
      · have := few_l0 L hm d (i + 1) (by omega) (by omega)
        rw [hdr, List.all_cons, decide_eq_true h, Bool.true_and]
        exact this
    · refine Ev.step (f := fun _ => some false) (fun k => ?_) ?_
      · rw [PRq.ramekinlaw5_Few.l0, if_pos (by omega), if_pos (by omega), rdL_nat, row_lt hil, if_pos (by omega)]
      · rw [hdr, List.all_cons, decide_eq_false h, Bool.false_and, Bool.false_and]
        exact Ev.now _
theorem few_ev (L : List (List Int)) (hm : L.length ≤ 9223372036854775807) : Ev (fun k => PRq.ramekinlaw5_Few.f k L) (fewB L) := few_l0 L hm L.length 0 (by omega) (by omega)
theorem few_of {L : List (List Int)} (h : fewB L = true) : L.length ≤ 20 ∧ ∀ r ∈ L, r.length ≤ 60 := by
  unfold fewB at h
  rw [Bool.and_eq_true, List.all_eq_true] at h
  exact ⟨of_decide_eq_true h.2, fun r hr => of_decide_eq_true (h.1 r hr)⟩
theorem alikeR_drop (L : List (List Int)) : ((L.drop 1).all fun r => r.length == (row L 0).length) = alikeR L := by
  cases L with
  | nil => rfl
  | cons r t => simp [alikeR, row]
theorem even_gen (L : List (List Int)) (a b : Nat) (h1 : 1 ≤ a) (hm : L.length ≤ 1000000) : PRr.ramekinref5_even.f L (a : Int) (b : Int) = some (decide (a ≤ L.length) && decide (L.length ≤ b) && alikeR L) := by
  refine Lim.lim_ev (fun k => PRq.ramekinref5_even.mono _ _ _ k) ?_
  by_cases ha : a ≤ L.length
  · by_cases hb : L.length ≤ b
    · refine Ev.congr (f := fun k => PRq.ramekinref5_even.j0 k L false) (fun k => ?_) (Ev.step (f := fun k => PRq.ramekinref5_even.l0 k L ((1 : Nat) : Int)) (fun k => ?_) ?_)
      · rw [PRq.ramekinref5_even.f, if_neg (by omega), decide_eq_false (by omega)]
      · rw [PRq.ramekinref5_even.j0, if_neg (by simp)]; rfl
      · have := Rp.even_l0 L hm (by omega) (L.length - 1) 1 (by omega) (by omega)
        rw [alikeR_drop] at this
        rw [decide_eq_true ha, decide_eq_true hb, Bool.true_and, Bool.true_and]
        exact this
    · refine Ev.congr (f := fun k => PRq.ramekinref5_even.j0 k L true) (fun k => ?_) (Ev.step (f := fun _ => some false) (fun k => ?_) ?_)
      · rw [PRq.ramekinref5_even.f, if_neg (by omega), decide_eq_true (by omega)]
      · rw [PRq.ramekinref5_even.j0, if_pos rfl]
      · rw [decide_eq_false hb, Bool.and_false, Bool.false_and]
        exact Ev.now _
  · refine Ev.congr (f := fun k => PRq.ramekinref5_even.j0 k L true) (fun k => ?_) (Ev.step (f := fun _ => some false) (fun k => ?_) ?_)
    · rw [PRq.ramekinref5_even.f, if_pos (by omega)]
    · rw [PRq.ramekinref5_even.j0, if_pos rfl]
    · rw [decide_eq_false ha, Bool.false_and, Bool.false_and]
      exact Ev.now _
theorem refpar_bad (L : List (List Int)) (hm : L.length ≤ 1000000) (h : (decide (2 ≤ L.length) && decide (L.length ≤ 14) && alikeR L) = false) : Ev (fun k => PRr.ramekinref5_Parity.f k L) (([] : List Int), ([] : List Int)) := by
  have he := even_gen L 2 14 (by omega) hm
  rw [h] at he
  refine Ev.congr (f := fun _ => some ([], [])) (fun k => ?_) (Ev.now _)
  rw [PRr.ramekinref5_Parity.f, show PRr.ramekinref5_even.f L 2 14 = some false from he]
  rfl
theorem parity_bad2 (L : List (List Int)) (hm : L.length ≤ 1000000) (h : alikeR L = false) : Ev (fun k => PRq.rs_Parity.f k L) (([] : List Int), ([] : List Int)) := by
  refine Ev.bind (alike_ev L hm) (Ev.congr (f := fun _ => some ([], [])) (fun k => ?_) (Ev.now _))
  rw [h]
  rfl
/-- any rows' parities: the program's are the document's -/
theorem par_both (L : List (List Int)) (hb : ∀ r ∈ L, Bytes r) (hl : L.length ≤ 20) (hr : ∀ r ∈ L, r.length ≤ 60) : ∃ p q, Ev (fun k => PRq.rs_Parity.f k L) (p, q) ∧ Ev (fun k => PRr.ramekinref5_Parity.f k L) (p, q) := by
  cases h : (decide (2 ≤ L.length) && decide (L.length ≤ 14) && alikeR L) with
  | false =>
    refine ⟨[], [], ?_, refpar_bad L (by omega) h⟩
    by_cases ha : alikeR L = true
    · refine parity_bad L (by omega) ?_
      rw [ha, Bool.and_true, Bool.and_eq_false_iff] at h
      rcases h with h | h
      · exact .inl (by have := of_decide_eq_false h; omega)
      · exact .inr (by have := of_decide_eq_false h; omega)
    · exact parity_bad2 L (by omega) (Bool.eq_false_iff.2 ha)
  | true =>
    rw [Bool.and_eq_true, Bool.and_eq_true] at h
    have h2 := of_decide_eq_true h.1.1
    have h14 := of_decide_eq_true h.1.2
    have ha := alike_len h.2
    have hn : lenR L ≤ 60 := by
      have h0 : 0 < L.length := by omega
      have h3 := hr _ (List.getElem_mem h0)
      rw [ha _ (List.getElem_mem h0)] at h3
      exact h3
    exact ⟨_, _, parity_ev L (lenR L) ha hb h2 h14 (by omega), Rp.refpar_ev L (lenR L) ha hb h2 h14 (by omega)⟩
theorem str_eq {a b : List Int} (ha : Bytes a) (hb : Bytes b) : ((strOfNums a).toList = (strOfNums b).toList) ↔ a = b := ⟨fun h => Sm.strOfNums_inj ha hb h, fun h => by rw [h]⟩
theorem refcheck_bad (L : List (List Int)) (hm : L.length ≤ 1000000) (h : (decide (4 ≤ L.length) && decide (L.length ≤ 16) && alikeR L) = false) : PRc.ramekinref5_Check.f L = some false := by
  have he := even_gen L 4 16 (by omega) hm
  rw [h] at he
  rw [PRc.ramekinref5_Check.f, show PRc.ramekinref5_even.f L 4 16 = some false from he]
  rfl
theorem refcheck_ok (L : List (List Int)) (n d : Nat) (hL : Tw.GoodR n L) (hd : L.length = d + 2) (h4 : 4 ≤ L.length) (h16 : L.length ≤ 16) (hn : n ≤ 1000000) : PRc.ramekinref5_Check.f L = some (decide (sumP (L.take d) n = row L d) && decide (sumQ (L.take d) n = row L (d + 1))) := by
  have he := even_gen L 4 16 (by omega) (by omega)
  rw [decide_eq_true h4, decide_eq_true h16, alikeR_of (fun r h => (hL r h).1)] at he
  have e1 : wrap64 ((L.length : Int) - 2) = (d : Int) := by rw [w64 (by omega) (by omega)]; omega
  have e2 : wrap64 ((L.length : Int) - 1) = ((d + 1 : Nat) : Int) := by rw [w64 (by omega) (by omega)]; omega
  have gt := good_take (m := d) hL
  have bt : ∀ r ∈ L.take d, Bytes r := fun r h => (gt r h).2
  have hp : PRc.ramekinref5_Parity.f (L.take d) = some (sumP (L.take d) n, sumQ (L.take d) n) := Lim.lim_ev (fun k => PRr.ramekinref5_Parity.mono _ k) (Rp.refpar_ev (L.take d) n (fun r h => (gt r h).1) bt (by rw [List.length_take]; omega) (by rw [List.length_take]; omega) (by omega))
  have r1 : ∀ j : Nat, PRc.rd_L1 L (j : Int) = row L j := fun j => by unfold PRc.rd_L1 row; simp
  have b1 := bytes_sumP _ n bt
  have b2 := bytes_sumQ _ n bt
  have g1 := Tw.good_row hL (i := d) (by omega)
  have g2 := Tw.good_row hL (i := d + 1) (by omega)
  rw [PRc.ramekinref5_Check.f, show PRc.ramekinref5_even.f L 4 16 = some true from he, Option.bind_some, if_pos rfl, e1, if_pos (by omega), if_pos (by omega), Int.toNat_natCast, hp, Option.bind_some, if_pos (by omega), r1]
  by_cases h1 : sumP (L.take d) n = row L d
  · rw [if_pos ((str_eq b1 g1.2).2 h1), decide_eq_true h1, Bool.true_and, e2, if_pos (by omega), if_pos (by omega), r1]
    by_cases h2 : sumQ (L.take d) n = row L (d + 1)
    · rw [decide_eq_true h2]
      exact congrArg some (beq_iff_eq.2 ((str_eq b2 g2.2).2 h2))
    · rw [decide_eq_false h2]
      exact congrArg some (beq_eq_false_iff_ne.2 (fun h => h2 ((str_eq b2 g2.2).1 h)))
  · rw [if_neg (fun h => h1 ((str_eq b1 g1.2).1 h)), decide_eq_false h1, Bool.false_and]
/-- whether any rows are right: the program tells what the document does -/
theorem check_both (L : List (List Int)) (hb : ∀ r ∈ L, Bytes r) (hl : L.length ≤ 20) (hr : ∀ r ∈ L, r.length ≤ 60) : ∃ b, Ev (fun k => PRr.rs_Check.f k L) b ∧ PRc.ramekinref5_Check.f L = some b := by
  cases h : (decide (4 ≤ L.length) && decide (L.length ≤ 16) && alikeR L) with
  | false =>
    refine ⟨false, check_bad L (by omega) ?_, refcheck_bad L (by omega) h⟩
    rw [Bool.and_eq_false_iff, Bool.and_eq_false_iff] at h
    rcases h with (h | h) | h
    · exact .inl (by have := of_decide_eq_false h; omega)
    · exact .inr (.inl (by have := of_decide_eq_false h; omega))
    · exact .inr (.inr h)
  | true =>
    rw [Bool.and_eq_true, Bool.and_eq_true] at h
    have h4 := of_decide_eq_true h.1.1
    have h16 := of_decide_eq_true h.1.2
    have ha := alike_len h.2
    have hn : lenR L ≤ 60 := by
      have h0 : 0 < L.length := by omega
      have h3 := hr _ (List.getElem_mem h0)
      rw [ha _ (List.getElem_mem h0)] at h3
      exact h3
    obtain ⟨d, hd⟩ : ∃ d, L.length = d + 2 := ⟨L.length - 2, by omega⟩
    have hg : Tw.GoodR (lenR L) L := fun r h => ⟨ha r h, hb r h⟩
    exact ⟨_, check_ev L (lenR L) d hg hd h4 h16 (by omega), refcheck_ok L (lenR L) d hg hd h4 h16 (by omega)⟩
/-- a byte turned -/
def turnB (A : List (List Int)) (k j : Nat) (by_ : Int) : List Int := (row A k).set j (xorI (at_ (row A k) j) by_)
theorem turn_ne {A : List (List Int)} {n d k j : Nat} {b : Int} (hA : Cd.Code A n d) (h2 : 2 ≤ d) (h14 : d ≤ 14) (hk : k < d + 2) (hj : j < n) (hb : Byt b) (h0 : b ≠ 0) :
    Tw.GoodR n (A.set k (turnB A k j b)) ∧ (decide (sumP ((A.set k (turnB A k j b)).take d) n = row (A.set k (turnB A k j b)) d) && decide (sumQ ((A.set k (turnB A k j b)).take d) n = row (A.set k (turnB A k j b)) (d + 1))) = false := by
  have lA := hA.len
  have gk := Tw.good_row hA.good (i := k) (by omega)
  have bx := byt_at gk.2 j
  have gB : Tw.GoodR n (A.set k (turnB A k j b)) := Tw.good_set hA.good ⟨by unfold turnB; rw [List.length_set]; exact gk.1, by
    intro x hx
    unfold turnB at hx
    rcases List.mem_or_eq_of_mem_set hx with h | h
    · exact gk.2 x h
    · rw [h]; exact byt_xor bx hb⟩
  refine ⟨gB, ?_⟩
  rw [Bool.eq_false_iff]
  intro h
  rw [Bool.and_eq_true] at h
  have hB : Cd.Code (A.set k (turnB A k j b)) n d := ⟨gB, by rw [List.length_set]; exact lA, of_decide_eq_true h.1, of_decide_eq_true h.2⟩
  have hag : ∀ i, i < d + 2 → i ≠ k → row A i = row (A.set k (turnB A k j b)) i := fun i _ hik => (Tw.row_set_ne (Ne.symm hik) _).symm
  have he : A = A.set k (turnB A k j b) := by
    by_cases h0 : k = 0
    · exact uniq hA hB (by omega) (a := 0) (b := 1) (by omega) (by omega) (fun i hi h1 h2 => hag i hi (by omega))
    · exact uniq hA hB (by omega) (a := 0) (b := k) (by omega) hk (fun i hi h1 h2 => hag i hi h2)
  have h3 : row A k = row (A.set k (turnB A k j b)) k := congrArg (fun X => row X k) he
  rw [Tw.row_set_self (by omega)] at h3
  have h5 : at_ (row A k) j = at_ (turnB A k j b) j := congrArg (fun x => at_ x j) h3
  have hjl : j < (row A k).length := by rw [gk.1]; exact hj
  have h6 : at_ (turnB A k j b) j = xorI (at_ (row A k) j) b := by unfold turnB; simp [at_, hjl]
  rw [h6] at h5
  have h7 := congrArg (xorI (at_ (row A k) j)) h5
  rw [xorI_self, xorI_self_left _ hb] at h7
  exact h0 h7.symm
end Go.Proofs.Ytdbnladpogpiiaa.Pe
/-
  RsParity: its walk.
-/
namespace Go.Proofs.Ytdbnladpogpiiaa.Py
open Go.RowKit Go.Proofs.YtdbnladpogpiiaaW.PrintWords Go.Proofs.YtdbnladpogpiiaaW.PrintLast
open Go.Proofs.Ytdbnladpogpiiaa.Fld Go.Proofs.Ytdbnladpogpiiaa.Pl Go.Proofs.Ytdbnladpogpiiaa.Ot Go.Proofs.Ytdbnladpogpiiaa.Kp Go.Proofs.Ytdbnladpogpiiaa.Fw Go.Proofs.Ytdbnladpogpiiaa.Co Go.Proofs.Ytdbnladpogpiiaa.Cw Go.Proofs.Ytdbnladpogpiiaa.Cd Go.Proofs.Ytdbnladpogpiiaa.Pc Go.Proofs.Ytdbnladpogpiiaa.Rf Go.Proofs.Ytdbnladpogpiiaa.Pe Go.Proofs.Ytdbnladpogpiiaa.Fs
set_option linter.unusedSimpArgs false
set_option linter.unusedVariables false
theorem few_any (A : Option Addr) (c : Nat) (L : List (List Int)) (w : World) (hm : L.length ≤ 9223372036854775807) (hr : Kd.C (Kd.slice 5 (Kd.int .u8)) w A L.length L) (hc : L.length ≤ c) :
    Calls Try.prog 17 #[.slice A L.length c] w fun e w' => e = .returned (.bool (fewB L)) ∧ Drawn0 w w' := by
  obtain ⟨k, hk⟩ := (few_ev L hm).rounds
  exact PRq.ramekinlaw5_Few.calls k A c L _ w hr hc hk
theorem rspar_any (A : Option Addr) (c : Nat) (L : List (List Int)) (p q : List Int) (w : World) (h : Ev (fun k => PRq.rs_Parity.f k L) (p, q)) (hr : Kd.C (Kd.slice 5 (Kd.int .u8)) w A L.length L) (hc : L.length ≤ c) :
    Calls Try.prog 14 #[.slice A L.length c] w fun e w' => ∃ A0 c0 A1 c1, e = .returned (.tuple #[.slice A0 p.length c0, .slice A1 q.length c1]) ∧ p.length ≤ c0 ∧ q.length ≤ c1 ∧ Kd.C (Kd.int .u8) w' A0 p.length p ∧ Kd.C (Kd.int .u8) w' A1 q.length q ∧ Below w.heap.size w w' := by
  obtain ⟨k, hk⟩ := h.rounds
  refine (PRq.rs_Parity.calls k A c L p q w hr hc hk).mono ?_
  rintro e w' ⟨v0, v1, rfl, h0, h1, hb⟩
  obtain ⟨A0, c0, rfl, l0, hC0⟩ := Kd.R_reads h0
  obtain ⟨A1, c1, rfl, l1, hC1⟩ := Kd.R_reads h1
  exact ⟨A0, c0, A1, c1, rfl, l0, l1, hC0, hC1, hb⟩
theorem refp_any (A : Option Addr) (c : Nat) (L : List (List Int)) (p q : List Int) (w : World) (h : Ev (fun k => PRr.ramekinref5_Parity.f k L) (p, q)) (hr : Kd.C (Kd.slice 5 (Kd.int .u8)) w A L.length L) (hc : L.length ≤ c) :
    Calls Try.prog 18 #[.slice A L.length c] w fun e w' => ∃ A0 c0 A1 c1, e = .returned (.tuple #[.slice A0 p.length c0, .slice A1 q.length c1]) ∧ p.length ≤ c0 ∧ q.length ≤ c1 ∧ Kd.C (Kd.int .u8) w' A0 p.length p ∧ Kd.C (Kd.int .u8) w' A1 q.length q ∧ Below w.heap.size w w' := by
  obtain ⟨k, hk⟩ := h.rounds
  refine (PRr.ramekinref5_Parity.calls k A c L p q w hr hc hk).mono ?_
  rintro e w' ⟨v0, v1, rfl, h0, h1, hb⟩
  obtain ⟨A0, c0, rfl, l0, hC0⟩ := Kd.R_reads h0
  obtain ⟨A1, c1, rfl, l1, hC1⟩ := Kd.R_reads h1
  exact ⟨A0, c0, A1, c1, rfl, l0, l1, hC0, hC1, hb⟩
theorem chk_any (A : Option Addr) (c : Nat) (L : List (List Int)) (b : Bool) (w : World) (h : Ev (fun k => PRr.rs_Check.f k L) b) (hr : Kd.C (Kd.slice 5 (Kd.int .u8)) w A L.length L) (hc : L.length ≤ c) :
    Calls Try.prog 19 #[.slice A L.length c] w fun e w' => e = .returned (.bool b) ∧ Below w.heap.size w w' := by
  obtain ⟨k, hk⟩ := h.rounds
  exact PRr.rs_Check.calls k A c L b w hr hc hk
theorem below_d0 {w w' : World} (h : Drawn0 w w') : Below w.heap.size w w' := by
  obtain ⟨q, rfl⟩ := h
  exact pw_below_drewN (Below.refl _ _) q
theorem tmod_neg_iff (a n : Int) (hn : 1 ≤ n) : (if a.tmod n < 0 then a.tmod n + n else a.tmod n) = a % n := by
  have h1 := Int.tmod_eq_emod (a := a) (b := n)
  have h2 := Int.emod_nonneg a (b := n) (by omega)
  have h3 := Int.emod_lt_of_pos a (b := n) (by omega)
  have h4 : (n.natAbs : Int) = n := by omega
  split at h1 <;> split <;> omega
theorem q16 (a : Int) (h : -9223372036854775808 ≤ a ∧ a ≤ 9223372036854775807) : -9223372036854775808 ≤ a.tdiv 16 ∧ a.tdiv 16 ≤ 9223372036854775807 := by
  rcases Int.le_total 0 a with h0 | h0
  · rw [Int.tdiv_eq_ediv_of_nonneg h0]; omega
  · obtain ⟨b, rfl⟩ : ∃ b, a = -b := ⟨-a, by omega⟩
    rw [Int.neg_tdiv, Int.tdiv_eq_ediv_of_nonneg (by omega)]
    omega
set_option maxHeartbeats 400000 in
theorem within_x (a n : Int) (w : World) (ha : -9223372036854775808 ≤ a ∧ a ≤ 9223372036854775807) (hn : 1 ≤ n) (hn2 : n ≤ 4611686018427387904) :
    Calls Try.prog 12 #[.int .i64 a, .int .i64 n] w fun e w' => e = .returned (.int .i64 (a % n)) ∧ w' = w := by
  have hk := tmod_neg_iff a n hn
  have h2 := Int.emod_nonneg a (b := n) (by omega)
  have h3 := Int.emod_lt_of_pos a (b := n) (by omega)
  by_cases h : a.tmod n < 0
  · rw [if_pos h] at hk
    have hb : -9223372036854775808 ≤ a.tmod n + n ∧ a.tmod n + n ≤ 9223372036854775807 := by omega
    have hw : IntKind.i64.wrap (a.tmod n + n) = a.tmod n + n := IntWalk.i64_in _ (by omega)
    replace hk := Lib.hid hk
    replace hw := Lib.hid hw
    clear h2 h3
    go_enter Try.func12, Try.ntmps12
    go_wp2
    go_ret
    refine ⟨?_, rfl⟩
    simp only [Ending.returned.injEq]
    rw [← hk.out]
    simp
  · rw [if_neg h] at hk
    replace hk := Lib.hid hk
    clear h2 h3
    go_enter Try.func12, Try.ntmps12
    go_wp2
    go_ret
    exact ⟨by rw [← hk.out]; rfl, rfl⟩
set_option maxRecDepth 100000 in
set_option maxHeartbeats 2000000 in
theorem parity_any (A0 : Option Addr) (c0 : Nat) (l0 : List Int) (a1 a2 : Int) (A3 : Option Addr) (c3 : Nat) (l3 : List (List Int)) (a4 a5 : Int) (w : World) (hr0 : Kd.C (Kd.int .u8) w A0 l0.length l0) (hc0 : l0.length ≤ c0) (hr3 : Kd.C (Kd.slice 5 (Kd.int .u8)) w A3 l3.length l3) (hc3 : l3.length ≤ c3)
    (n0 : l0.length ≤ 9223372036854775807) (n3 : l3.length ≤ 9223372036854775807) (b3 : ∀ r ∈ l3, Bytes r) (b5 : Byt a5) (i4 : -9223372036854775808 ≤ a4 ∧ a4 ≤ 9223372036854775807) :
    Calls Try.prog 5 #[.slice A0 l0.length c0, .int .i64 a1, .int .i64 a2, .slice A3 l3.length c3, .int .i64 a4, .int .u8 a5] w fun e w' => e = .returned (.bool true) ∧ Below w.heap.size w w' := by
  have HR0 := Lib.hid hr0
  have HR3 := Lib.hid hr3
  have N0 := Lib.hid n0
  have N3 := Lib.hid n3
  have I4 := Lib.hid i4
  have B3 := Lib.hid b3
  have B5 := Lib.hid b5
  clear hr0 hr3 n0 n3 i4 b3 b5
  obtain ⟨m0, em, hm0⟩ : ∃ m : Nat, a1 % 13 = (m : Int) ∧ m < 13 := ⟨(a1 % 13).toNat, by omega, by omega⟩
  obtain ⟨s, es, hs⟩ : ∃ m : Nat, a2 % 20 = (m : Int) ∧ m < 20 := ⟨(a2 % 20).toNat, by omega, by omega⟩
  have EM := Lib.hid em
  have ES := Lib.hid es
  clear em es
  go_enter Try.func5, Try.ntmps5
  go_wp2_with fail
  refine (known_any w).mono ?_
  rintro e w0 ⟨rfl, hb0⟩
  have HB0 := Lib.hid hb0
  have hfew := Lib.hid (few_any A3 c3 l3 w0 N3.out (Kd.C_below HR3.out hb0) hc3)
  clear hb0
  go_wp2_with fail
  refine hfew.out.mono ?_
  rintro e w1 ⟨rfl, hd1⟩
  have HB1 := Lib.hid (HB0.out.trans ((below_d0 hd1).mono HB0.out.size))
  clear hd1 hfew HB0
  cases hfw : fewB l3 with
  | false =>
    go_wp2_with fail
    go_ret
    exact ⟨rfl, HB1.out⟩
  | true =>
  obtain ⟨few1, few2⟩ := few_of hfw
  have FEW2 := Lib.hid few2
  clear hfw few2
  go_wp2_with fail
  refine (within_any a1 13 (by omega) (by omega) w1).mono ?_
  rintro e w2 ⟨rfl, q2, rfl⟩
  rw [EM.out]
  go_wp2_with fail
  refine (within_any a2 20 (by omega) (by omega) _).mono ?_
  rintro e w3 ⟨rfl, q3, rfl⟩
  rw [ES.out]
  have HB3 := Lib.hid (pw_below_drewN (pw_below_drewN HB1.out q2) q3)
  obtain ⟨w3, hw3⟩ : ∃ w3, (w1.drewN q2).drewN q3 = w3 := ⟨_, rfl⟩
  rw [hw3] at HB3 ⊢
  clear hw3
  obtain ⟨L, L1, L2, L3, hrows⟩ := rows_any A0 c0 l0 (2 + m0) s w3 (by omega) (by omega) N0.out (Kd.C_below HR0.out HB3.out) hc0
  have HRows := Lib.hid hrows
  have HL1 := Lib.hid L1
  have hL2 : 2 ≤ L.length := by omega
  have hLl : L.length ≤ 14 := by omega
  clear hrows L1
  go_wp2_with fail
  rw [show (2 : Int) + (m0 : Int) = ((2 + m0 : Nat) : Int) from by omega]
  refine HRows.out.mono ?_
  rintro e w4 ⟨vL, rfl, nL, hb4⟩
  obtain ⟨AL, cL, rfl⟩ := Kd.N_slice nL
  have HB4 := Lib.hid (HB3.out.trans (hb4.mono HB3.out.size))
  have HRd := Lib.hid (Kd.N_reads' nL)
  clear nL hb4 HRows
  have bL := Lib.hid L3
  have gL := Lib.hid L2
  clear L2 L3
  have hrp := rspar_any AL cL L (sumP L s) (sumQ L s) w4 (parity_ev L s gL.out bL.out hL2 hLl (by omega)) HRd.out.2.2 HRd.out.2.1
  obtain ⟨P0, hP0⟩ : ∃ x, sumP L s = x := ⟨_, rfl⟩
  obtain ⟨Q0, hQ0⟩ : ∃ x, sumQ L s = x := ⟨_, rfl⟩
  rw [hP0, hQ0] at hrp
  have HPar := Lib.hid hrp
  have HP0 := Lib.hid hP0
  have HQ0 := Lib.hid hQ0
  clear hrp hP0 hQ0
  go_wp2_with fail
  refine HPar.out.mono ?_
  rintro e w5 ⟨Ap, cp, Aq, cq, rfl, lp, lq, hCp, hCq, hb5⟩
  have HB5 := Lib.hid (HB4.out.trans (hb5.mono HB4.out.size))
  have HCL5 := Lib.hid (Kd.C_below HRd.out.2.2 hb5)
  have HLc := Lib.hid HRd.out.2.1
  have HCp := Lib.hid hCp
  have HCq := Lib.hid hCq
  clear hCp hCq hb5 HB4 HPar HRd
  have HPar := Lib.hid (refp_any AL cL L P0 Q0 w5 (by rw [← HP0.out, ← HQ0.out]; exact Rp.refpar_ev L s gL.out bL.out hL2 hLl (by omega)) HCL5.out HLc.out)
  go_wp2_with fail
  refine HPar.out.mono ?_
  rintro e w6 ⟨Ax, cx, Ay, cy, rfl, lx, ly, hCx, hCy, hb6⟩
  have HB6 := Lib.hid (HB5.out.trans (hb6.mono HB5.out.size))
  have HCL6 := Lib.hid (Kd.C_below HCL5.out hb6)
  have HCp6 := Lib.hid (Kd.C_below HCp.out hb6)
  have HCq6 := Lib.hid (Kd.C_below HCq.out hb6)
  have HCx := Lib.hid hCx
  have HCy := Lib.hid hCy
  clear hCx hCy hb6 HB5 HPar HCL5 HCp HCq
  obtain ⟨rp, rq, ev1, ev2⟩ := par_both l3 B3.out few1 FEW2.out
  have HPar := Lib.hid (rspar_any A3 c3 l3 rp rq w6 ev1 (Kd.C_below HR3.out HB6.out) hc3)
  have EV2 := Lib.hid ev2
  clear ev1 ev2
  go_wp2_with fail
  refine HPar.out.mono ?_
  rintro e w7 ⟨Av, cv, Aw, cw, rfl, lv, lw, hCv, hCw, hb7⟩
  have B67 := Lib.hid hb7
  have HB7 := Lib.hid (HB6.out.trans (hb7.mono HB6.out.size))
  have HCv := Lib.hid hCv
  have HCw := Lib.hid hCw
  clear hCv hCw hb7 HPar
  have HPar := Lib.hid (refp_any A3 c3 l3 rp rq w7 EV2.out (Kd.C_below HR3.out HB7.out) hc3)
  go_wp2_with fail
  refine HPar.out.mono ?_
  rintro e w8 ⟨As, cs, At, ct, rfl, ls, lt, hCs, hCt, hb8⟩
  have HB8 := Lib.hid (HB7.out.trans (hb8.mono HB7.out.size))
  have C8 {A : Option Addr} {l : List Int} (h : Kd.C (Kd.int .u8) w6 A l.length l) : Kd.C (Kd.int .u8) w8 A l.length l := Kd.C_below (Kd.C_below h B67.out) hb8
  have HCL8 := Lib.hid (Kd.C_below (Kd.C_below HCL6.out B67.out) hb8)
  have Cp8 := C8 HCp6.out
  have Cq8 := C8 HCq6.out
  have Cx8 := C8 HCx.out
  have Cy8 := C8 HCy.out
  have Cv8 := Kd.C_below HCv.out hb8
  have Cw8 := Kd.C_below HCw.out hb8
  have HCx8 := Lib.hid Cx8
  have HCy8 := Lib.hid Cy8
  clear C8 hb8 HPar HCL6 HCp6 HCq6 HCx HCy HCv HCw B67 HB6 HB7 EV2
  have k1 := Kd.C_string (P := Try.prog) (A := Ap) (c := cp) Try.underlying22 Try.underlying5 Try.underlying9 Cp8
  have k2 := Kd.C_string (P := Try.prog) (A := Aq) (c := cq) Try.underlying22 Try.underlying5 Try.underlying9 Cq8
  have k3 := Kd.C_string (P := Try.prog) (A := Ax) (c := cx) Try.underlying22 Try.underlying5 Try.underlying9 Cx8
  have k4 := Kd.C_string (P := Try.prog) (A := Ay) (c := cy) Try.underlying22 Try.underlying5 Try.underlying9 Cy8
  have k5 := Kd.C_string (P := Try.prog) (A := Av) (c := cv) Try.underlying22 Try.underlying5 Try.underlying9 Cv8
  have k6 := Kd.C_string (P := Try.prog) (A := Aw) (c := cw) Try.underlying22 Try.underlying5 Try.underlying9 Cw8
  have k7 := Kd.C_string (P := Try.prog) (A := As) (c := cs) Try.underlying22 Try.underlying5 Try.underlying9 hCs
  have k8 := Kd.C_string (P := Try.prog) (A := At) (c := ct) Try.underlying22 Try.underlying5 Try.underlying9 hCt
  clear Cp8 Cq8 Cx8 Cy8 Cv8 Cw8 hCs hCt
  go_wp2_with fail
  clear k1 k2 k3 k4 k5 k6 k7 k8
  obtain ⟨bC, evc, hcc⟩ := check_both l3 B3.out few1 FEW2.out
  have HCC := Lib.hid hcc
  refine (chk_any A3 c3 l3 bC w8 evc (Kd.C_below HR3.out HB8.out) hc3).mono ?_
  rintro e w9 ⟨rfl, hb9⟩
  have HB9 := Lib.hid (HB8.out.trans (hb9.mono HB8.out.size))
  have B89 := Lib.hid hb9
  clear hb9 evc hcc
  go_wp2_with fail
  refine (PRc.ramekinref5_Check.calls A3 c3 l3 bC w9 (Kd.C_below HR3.out HB9.out) hc3 HCC.out).mono ?_
  rintro e w10 ⟨rfl, hb10⟩
  have HB10 := Lib.hid (HB9.out.trans (hb10.mono HB9.out.size))
  have FL5 := Lib.hid (Kd.C_F (Kd.heap_slice 5 (Kd.heap_int .u8)) (Kd.C_below (Kd.C_below HCL8.out B89.out) hb10))
  have FP5 := Lib.hid (Kd.C_F (Kd.heap_int .u8) (Kd.C_below (Kd.C_below HCx8.out B89.out) hb10))
  have FQ5 := Lib.hid (Kd.C_F (Kd.heap_int .u8) (Kd.C_below (Kd.C_below HCy8.out B89.out) hb10))
  clear HCL8 HCx8 HCy8 B89 hb10 HB8 HB9 HCC
  obtain ⟨AA, hAA⟩ : ∃ x, L ++ [P0, Q0] = x := ⟨_, rfl⟩
  have HAA := Lib.hid hAA
  have LAA := Lib.hid (show AA.length = L.length + 2 from by rw [← hAA]; simp)
  have HCode := Lib.hid (show Cd.Code AA s L.length from by
    have h := code_of (L := L) (n := s) (fun r hr => ⟨gL.out r hr, bL.out r hr⟩)
    rw [HP0.out, HQ0.out, hAA] at h
    exact h)
  clear hAA
  have hxor : (bC != bC) = false := by cases bC <;> rfl
  go_wp2_with (first
    | ((with_reducible refine gate_dst (N := 89) rfl ?_); refine Kd.N_lit (Kd.slice 5 (Kd.int .u8)) (w0 := w10) w10.heap.size 22 rfl (N' := 89) rfl (xs := ([] : List (List Int))) (inner := []) (ok := fun _ => True) (okp := fun _ => True) (by first | (go_simp; done) | (go_simp; rfl)) (Reps.none _ _) (fun _ hk => hk) trivial (Below.refl _ _) (Nat.le_refl _) (by simp) ?_; intro v37 w6 n37 hb6 _ _; have N37 := Lib.hid n37; have B6 := Lib.hid hb6; clear n37 hb6)
    | ((with_reducible refine gate_builtin (b := .append) (xs := #[.tmp 89, .tmp 90]) rfl ?_); at_builtin; refine Kd.N_append_rows (Kd.slice 5 (Kd.int .u8)) (w0 := w10) w10.heap.size rfl (.tmp 89) (.tmp 90) 25 22 (.slice none 0 0) 24 rfl Try.underlying25 info_row rfl (by decide) (by omega) v37 [] L AL L.length cL (fun _ => True) (fun k => k < w10.heap.size) rfl rfl N37.out (Kd.F_below FL5.out B6.out) (fun k hk => ⟨trivial, fun e => by have := Kd.N_base N37.out k e.symm; omega⟩) (fun _ _ => trivial) B6.out B6.out.size (by simp; omega) ?_; intro v39 w7 n39 hb7 _ _; rw [List.nil_append] at n39; have N39 := Lib.hid n39; have B7 := Lib.hid hb7; clear n39 hb7 N37 B6)
    | ((with_reducible refine gate_dst (N := 94) rfl ?_); refine Kd.N_lit (Kd.slice 5 (Kd.int .u8)) (w0 := w10) w10.heap.size 22 rfl (N' := 94) rfl (xs := [P0, Q0]) (inner := [.slice Ax P0.length cx, .slice Ay Q0.length cy]) (ok := fun k => k < w10.heap.size ∨ w7.heap.size ≤ k) (okp := fun k => k < w10.heap.size) (by first | (go_simp; done) | (go_simp; rfl)) (Reps.one (Kd.FK_slice_mk lx (Kd.F_below FP5.out B7.out)) (Reps.one (Kd.FK_slice_mk ly (Kd.F_below FQ5.out B7.out)) (Reps.none _ _))) (fun _ hk => .inl hk) (.inr (Nat.le_refl _)) B7.out B7.out.size (by simp) ?_; intro v42 w8 n42 hb8 hg8 _; have N39' := Lib.hid (Kd.N_grown N39.out hg8 (fun _ _ => by simp)); have H39 := Lib.hid (fun k e => And.intro (Kd.N_base N39.out k e) (Kd.N_lt N39.out k e)); obtain ⟨A42, c42, e42⟩ := Kd.N_slice n42; subst e42; have N42 := Lib.hid n42; have B8 := Lib.hid hb8; clear n42 hb8 hg8 N39 B7)
    | ((with_reducible refine gate_builtin (b := .append) (xs := #[.tmp 91, .tmp 94]) rfl ?_); at_builtin; refine Kd.N_append_rows (Kd.slice 5 (Kd.int .u8)) (w0 := w10) w10.heap.size rfl (.tmp 91) (.tmp 94) 25 22 (.slice none 0 0) 24 rfl Try.underlying25 info_row rfl (by decide) (by omega) v39 L [P0, Q0] A42 _ c42 (fun _ => True) (fun k => k < w10.heap.size ∨ w7.heap.size ≤ k) rfl rfl N39'.out (Kd.N_F N42.out) (fun k hk => ⟨trivial, fun e => by have h := H39.out k e.symm; omega⟩) (fun _ _ => trivial) B8.out B8.out.size (by simp; omega) ?_; intro v43 w9 n43 hb9 _ _; rw [HAA.out] at n43; obtain ⟨g, cap, e43, g10, _⟩ := Kd.N_form n43 (by have := LAA.out; omega); subst e43; have N43 := Lib.hid n43; have B9 := Lib.hid hb9; clear n43 hb9 N42 B8 N39' H39))
  clear FL5 FP5 FQ5
  have hAA16 : AA.length ≤ 16 := by have := LAA.out; omega
  have hAA4 : 4 ≤ AA.length := by have := LAA.out; omega
  have HRd := Lib.hid (Kd.N_reads' N43.out)
  have hck := chk_any (some ⟨g, 0, none⟩) cap AA true w9 (by
    have h := check_ev AA s L.length HCode.out.good LAA.out hAA4 hAA16 (by omega)
    rw [decide_eq_true HCode.out.p, decide_eq_true HCode.out.q] at h
    exact h) HRd.out.2.2 HRd.out.2.1
  refine hck.mono ?_
  rintro e w11 ⟨rfl, hb11⟩
  have B11 := Lib.hid (B9.out.trans (hb11.mono B9.out.size))
  have N11 := Lib.hid (Kd.N_below N43.out hb11)
  clear hck hb11 HRd N43 B9
  go_wp2_with fail
  refine (within_any a4 AA.length (by omega) (by omega) w11).mono ?_
  rintro e w12 ⟨rfl, q12, rfl⟩
  obtain ⟨k, ek, hk⟩ : ∃ k : Nat, a4 % (AA.length : Int) = (k : Int) ∧ k < AA.length := ⟨(a4 % (AA.length : Int)).toNat, by rw [Int.toNat_of_nonneg (Int.emod_nonneg _ (by omega))], by have := Int.emod_lt_of_pos a4 (show (0 : Int) < (AA.length : Int) by omega); have := Int.emod_nonneg a4 (show (AA.length : Int) ≠ 0 by omega); omega⟩
  rw [ek]
  have B12 := Lib.hid (pw_below_drewN B11.out q12)
  have N12 := Lib.hid (Kd.N_drewN N11.out q12)
  clear ek N11 B11
  obtain ⟨w12, hw12⟩ : ∃ x, w11.drewN q12 = x := ⟨_, rfl⟩
  rw [hw12] at B12 N12 ⊢
  clear hw12
  obtain ⟨ad2, e2, hx, hxc, hxC⟩ := hdr_at (L := AA) (A := some ⟨g, 0, none⟩) (w := w12) (Kd.N_reads' N12.out).2.2 k hk
  cases e2
  rw [show (⟨g, 0, none⟩ : Addr).add k = ⟨g, k, none⟩ from by simp [Addr.add]; omega] at hx
  have hxe : hdr w12 (some ⟨g, 0, none⟩) AA k = .slice (fA w12 (some ⟨g, 0, none⟩) k) (row AA k).length (fc w12 (some ⟨g, 0, none⟩) k) := rfl
  rw [hxe] at hx
  clear hxe
  generalize fA w12 (some ⟨g, 0, none⟩) k = A6 at hx hxc hxC
  generalize fc w12 (some ⟨g, 0, none⟩) k = c6 at hx hxc hxC
  obtain ⟨rk, hrk⟩ : ∃ x, row AA k = x := ⟨_, rfl⟩
  have gk := Tw.good_row HCode.out.good (i := k) hk
  rw [hrk] at hx hxc hxC gk
  have GK := Lib.hid gk
  have HRK := Lib.hid hrk
  have HXC := Lib.hid hxC
  clear hxC gk hrk
  by_cases hs0 : rk.length = 0
  · have hs1 : (rk.length : Int) = 0 := by omega
    go_wp2_with fail
    go_ret
    exact ⟨rfl, HB10.out.trans (B12.out.mono HB10.out.size)⟩
  by_cases h50 : a5 = 0
  · go_wp2_with fail
    go_ret
    exact ⟨rfl, HB10.out.trans (B12.out.mono HB10.out.size)⟩
  have hs1 : ¬ (rk.length : Int) = 0 := by omega
  have hq1 : ((rk.length : Int) == 0) = false := by rw [beq_eq_false_iff_ne]; exact hs1
  have hq2 : (a5 == 0) = false := by rw [beq_eq_false_iff_ne]; exact h50
  have hs20 : rk.length ≤ 20 := by have := GK.out.1; omega
  go_wp2_with (first
    | ((with_reducible refine gate_dst (N := 115) rfl ?_); refine Kd.R_lit (Kd.int .u8) (w0 := w12) w12.heap.size 5 rfl (N := 115) rfl (xs := ([] : List Int)) (inner := []) (ok := fun i => w12.heap.size ≤ i) (okp := fun _ => False) (by first | (go_simp; done) | (go_simp; rfl)) (Reps.none _ _) (fun _ hk => hk.elim) (Nat.le_refl _) (Below.refl _ _) (Nat.le_refl _) (by simp) ?_; intro v115 w13 r115 hb13 _ _; have R115 := Lib.hid r115; have B13 := Lib.hid hb13; have hx13 := pw_cell_below hb13 hx; clear r115 hb13)
    | ((with_reducible refine gate_builtin (b := .append) (xs := #[.tmp 115, .tmp 119]) rfl ?_); at_builtin; refine Kd.R_append_rows (Kd.int .u8) (w0 := w12) w12.heap.size rfl (.tmp 115) (.tmp 119) 22 5 (.int .u8 0) 1 rfl Try.underlying22 Ow.info_byte rfl (by decide) (by omega) v115 [] rk A6 rk.length c6 (fun i => w12.heap.size ≤ i) (fun _ => False) rfl rfl R115.out (Kd.C_below HXC.out B13.out) (fun _ _ h => h) (fun _ h => h.elim) (fun _ h => Nat.le_trans B13.out.size h) B13.out B13.out.size (by simp; omega) ?_; intro v120 w14 r120 hb14 _ _; rw [List.nil_append] at r120; obtain ⟨R, c14, e120, hR, _⟩ := Kd.R_form r120 (by omega); subst e120; have R120 := Lib.hid r120; have B14 := Lib.hid hb14; have hx14 := pw_cell_below hb14 hx; have hf14 := Sh.frozen (Kd.N_below N12.out hb14) k; clear r120 hb14 hx13 R115 B13))
  clear hq1 hq2 hx hf14
  have gl : g < w12.heap.size := Kd.N_lt N12.out g rfl
  have hc14 := (Kd.R_reads' R120.out).2.1
  obtain ⟨j, ej, hj⟩ : ∃ j : Nat, (a4.tdiv 16) % (rk.length : Int) = (j : Int) ∧ j < rk.length := ⟨((a4.tdiv 16) % (rk.length : Int)).toNat, by rw [Int.toNat_of_nonneg (Int.emod_nonneg _ (by omega))], by have := Int.emod_lt_of_pos (a4.tdiv 16) (show (0 : Int) < (rk.length : Int) by omega); have := Int.emod_nonneg (a4.tdiv 16) (show (rk.length : Int) ≠ 0 by omega); omega⟩
  have hq : -9223372036854775808 ≤ a4.tdiv 16 ∧ a4.tdiv 16 ≤ 9223372036854775807 := by
    exact q16 a4 I4.out
  obtain ⟨W, hW⟩ : ∃ x, w14.setCell ⟨g, k, none⟩ (.slice (some ⟨R, 0, none⟩) rk.length c14) = x := ⟨_, rfl⟩
  have hx15 : W.cell? ⟨g, k, none⟩ = some (.slice (some ⟨R, 0, none⟩) rk.length c14) := by rw [← hW]; exact World.cell?_setCell_same' _ _ _ (by rw [hx14]; rfl)
  have RW := Lib.hid (show Kd.R (Kd.int .u8) 5 W w12.heap.size (fun i => w12.heap.size ≤ i) (.slice (some ⟨R, 0, none⟩) rk.length c14) rk from by rw [← hW]; exact Kd.R_far (p := ⟨g, k, none⟩) R120.out (fun i hi e => by have : i = g := e; omega) _)
  have hy15 : W.cell? ⟨R, j, none⟩ = some (.int .u8 (at_ rk j)) := by
    obtain ⟨ad, e, h⟩ := Kd.at_int (Kd.R_reads' RW.out).2.2 (j : Int) (by omega) (by omega)
    cases e
    rw [Int.toNat_natCast, Sh.addr, rd_nat] at h
    exact h
  have hfz := Sh.bfrozen (Kd.own_of_R RW.out) j
  have HWI := Lib.hid (within_x (a4.tdiv 16) rk.length W.drew hq (by omega) (by omega))
  rw [ej] at HWI
  have HQ := Lib.hid (IntWalk.i64_in (a4.tdiv 16) (by omega))
  have hqe := HQ.out
  have HW := Lib.hid hW
  rw [hW]
  clear hW ej hq hx14
  go_still_tail 16, (by kernel_rfl)
  still_call HWI.out
  repeat still_step
  refine wpStill_nil ?_
  change wpList _ _ _ _ _ W.drew
  have hfz2 : W.drew.frozen? ⟨R, j, none⟩ = false := hfz
  have hy2 : W.drew.cell? ⟨R, j, none⟩ = some (.int .u8 (at_ rk j)) := hy15
  have hb5 := B5.out
  have hx5 := xor_u8 (byt_at GK.out.2 j) hb5
  go_wp2_with fail
  obtain ⟨r, hr⟩ : ∃ x, turnB AA k j a5 = x := ⟨_, rfl⟩
  have hrk : rk.set j (xorI (at_ rk j) a5) = r := by rw [← hr, ← HRK.out]; rfl
  have hrl : r.length = rk.length := by rw [← hrk, List.length_set]
  obtain ⟨V, hV⟩ : ∃ x, (W.setCell ⟨R, j, none⟩ (.int .u8 (xorI (at_ rk j) a5))).drew = x := ⟨_, rfl⟩
  have RV : Kd.R (Kd.int .u8) 5 V w12.heap.size (fun i => w12.heap.size ≤ i) (.slice (some ⟨R, 0, none⟩) rk.length c14) r := by
    have h1 := ((Kd.own_of_R RW.out).stored j (.int .u8 (xorI (at_ rk j) a5))).1
    have h2 : Kd.R (Kd.int .u8) 5 (W.setCell ⟨R, j, none⟩ (.int .u8 (xorI (at_ rk j) a5))) w12.heap.size (fun i => w12.heap.size ≤ i) (.slice (some ⟨R, 0, none⟩) rk.length c14) r := by
      refine Kd.R_of_own ?_ (fun i hi => own_base h1 i hi)
      rw [hrl, ← hrk]
      have h3 : (encs (Value.int .u8) rk).set j (.int .u8 (xorI (at_ rk j) a5)) = encs (Value.int .u8) (rk.set j (xorI (at_ rk j) a5)) := by unfold encs; rw [List.map_set]
      rw [← h3]
      exact h1
    rw [← hV]
    exact Kd.R_drew h2
  have hVh : ∀ b : Nat, b < w12.heap.size → b ≠ g → V.heap[b]? = w12.heap[b]? := fun b hb1 hb2 => by
    rw [← hV, ← HW.out]
    show ((w14.setCell ⟨g, k, none⟩ _).setCell ⟨R, j, none⟩ _).heap[b]? = _
    rw [Below.heap_setCell _ _ _ b (by show b ≠ R; omega), Below.heap_setCell _ _ _ b hb2]
    exact B14.out.block b hb1
  have hVc : ∀ i : Nat, i ≠ k → V.cell? ⟨g, i, none⟩ = w12.cell? ⟨g, i, none⟩ := fun i hi => by
    rw [← hV, ← HW.out]
    show ((w14.setCell ⟨g, k, none⟩ _).setCell ⟨R, j, none⟩ _).cell? _ = _
    rw [World.cell?_setCell_far _ _ _ _ (by show R ≠ g; omega)]
    exact (World.cell?_setCell_other _ ⟨g, k, none⟩ ⟨g, i, none⟩ _ (fun h => hi (by injection h with _ h _; exact h.symm))).trans (B14.out.cell (p := ⟨g, i, none⟩) gl)
  have hVk : V.cell? ⟨g, k, none⟩ = some (.slice (some ⟨R, 0, none⟩) r.length c14) := by
    rw [← hV, hrl]
    show (W.setCell ⟨R, j, none⟩ _).cell? _ = _
    rw [World.cell?_setCell_far _ _ _ _ (by show R ≠ g; omega)]
    exact hx15
  have hVr := Kd.R_reads' RV
  have hAll := Sh.mod N12.out hk hVc hVk (by rw [hrl]; exact hVr.2.1) hVr.2.2 hVh
  have hne := turn_ne (k := k) (j := j) (b := a5) HCode.out hL2 hLl (by have := LAA.out; omega) (by rw [← GK.out.1]; exact hj) hb5 h50
  rw [hr] at hne
  have hlen : (AA.set k r).length = AA.length := by rw [List.length_set]
  have hck := chk_any (some ⟨g, 0, none⟩) cap (AA.set k r) false V (by
    have h := check_ev (AA.set k r) s L.length hne.1 (by rw [hlen]; exact LAA.out) (by omega) (by omega) (by omega)
    rw [hne.2] at h
    exact h) (by rw [hlen]; exact hAll) (by rw [hlen]; exact (Kd.N_reads' N12.out).2.1)
  rw [hlen] at hck
  have HBV := Lib.hid (show Below w.heap.size w V from by
    rw [← hV, ← HW.out]
    have h1 := HB10.out.trans ((B12.out.trans (B14.out.mono B12.out.size)).mono HB10.out.size)
    have h2 := HB10.out.size
    exact below_drew1 ((h1.setCell (p := ⟨g, k, none⟩) (by show w.heap.size ≤ g; omega) _).setCell (p := ⟨R, j, none⟩) (by show w.heap.size ≤ R; have := B12.out.size; omega) _))
  rw [hV]
  have HCk := Lib.hid hck
  clear hck hne hAll hVr hVk hVc hVh RV hV hlen
  refine HCk.out.mono ?_
  rintro e w20 ⟨rfl, hb20⟩
  have HB20 := Lib.hid (HBV.out.trans (hb20.mono HBV.out.size))
  clear hb20
  go_wp2_with fail
  go_ret
  exact ⟨rfl, HB20.out⟩
end Go.Proofs.Ytdbnladpogpiiaa.Py
