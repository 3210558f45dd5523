/-
  Parts of a proof, laid together by a program of mine (pack.py): Tw, So, Kp, Ow, PRtx0, PRtx1, Sr, Fw, Lim, PRrx0, PRrx1.
-/
import Derived.Handy
import Derived.Deep.RegionHeld3
import Derived.StillTailTactics
import Derived.Lib.Hide
import Derived.RegionIn
import Derived.Stop.RegionWithIn
import Derived.Below
import Derived.Deep.Draws
import Derived.Deep.AppendLies
import Derived.Maps.AppendAt
import Derived.OwnWalk
import Derived.Laws.BytesArg
import Derived.Laws.MakeOwn
import Derived.Laws.OwnMore
import Derived.Deep.OwnRows
import Derived.Tactics
import Derived.Lib.ConvBytes
import Derived.Laws.Slices
import Derived.WalkKit
import Derived.KernelRfl
import Derived.RowKit3
import Derived.Deep.LoopGhost
import Derived.Deep.QuietTactic
import Derived.BigQuiet
import Derived.WideLaws
import Derived.Deep.DeepCutAuto
import Derived.Deep.CutBlock
import Derived.Laws.Rows
import Derived.Lib.AppendStr
import Derived.ArgAppend
import Derived.Laws.IdiomCopy
import Derived.OrdersHeld
import Derived.Laws.BitsLemmas
import Derived.RowKit
import Derived.ScopeJumps
import Derived.WalkMore
import Derived.Test.YtodbmgafejclmaaZD15
namespace Go.Proofs.Ytodbmgafejclmaa.Tw
open Go.RowKit Go.Proofs.YtodbmgafejclmaaW.PrintWords
open Go.Proofs.Ytodbmgafejclmaa.PRq Go.Proofs.Ytodbmgafejclmaa.Fld Go.Proofs.Ytodbmgafejclmaa.Pl Go.Proofs.Ytodbmgafejclmaa.Ot
set_option linter.unusedSimpArgs false
set_option linter.unusedVariables false
theorem exp_any (n : Nat) (hn : n < 255) (w : World) : Calls Try.prog 57 #[.int .i64 (n : Int)] w fun e w' => e = .returned (.int .u8 (expI n)) ∧ Below w.heap.size w w' := by
  obtain ⟨k, hk⟩ := (exp_ev n hn).rounds
  exact gf_Exp.calls k n _ w hk
theorem inv_any (x : Int) (hx : Byt x) (h0 : x ≠ 0) (w : World) : Calls Try.prog 56 #[.int .u8 x] w fun e w' => e = .returned (.int .u8 (invI x)) ∧ Below w.heap.size w w' := by
  obtain ⟨a, rfl⟩ := Int.eq_ofNat_of_zero_le hx.1
  have h := inv_ev a (by have := hx.2; omega) (by intro h; exact h0 (by rw [h]; rfl))
  obtain ⟨k, hk⟩ := (Ev.bind (f := fun _ t => some t) h (Ev.now _)).rounds
  exact gf_Inv.calls k a _ w hk
theorem mulI_any (x y : Int) (hx : Byt x) (hy : Byt y) (w : World) : Calls Try.prog 72 #[.int .u8 x, .int .u8 y] w fun e w' => e = .returned (.int .u8 (mulI x y)) ∧ Below w.heap.size w w' := gf_Mul.calls x y _ w (mul_f hx hy)
theorem xor_ne {a b : Nat} (ha : a < 16) (hb : b < 16) (h : a ≠ b) : xorI (expI a) (expI b) ≠ 0 := by
  have := exp_inj ha hb h
  unfold xorI expI
  intro h2
  have h3 : pw a ^^^ pw b = 0 := by simpa using h2
  apply this
  have h4 := congrArg (· ^^^ pw b) h3
  simpa [Nat.xor_assoc, Nat.xor_self] using h4
/-- rows of one length, of bytes -/
def GoodR (n : Nat) (rows : List (List Int)) : Prop := ∀ r ∈ rows, r.length = n ∧ Bytes r
theorem good_row {n : Nat} {rows : List (List Int)} (h : GoodR n rows) {i : Nat} (hi : i < rows.length) : (row rows i).length = n ∧ Bytes (row rows i) := by
  rw [row_lt hi]; exact h _ (List.getElem_mem hi)
theorem good_set {n : Nat} {rows : List (List Int)} (h : GoodR n rows) {i : Nat} {r : List Int} (hr : r.length = n ∧ Bytes r) : GoodR n (rows.set i r) := by
  intro x hx
  rcases List.mem_or_eq_of_mem_set hx with hx | rfl
  · exact h x hx
  · exact hr
theorem good_add {n : Nat} {a x : List Int} {b : Int} (ha : a.length = n ∧ Bytes a) (hx : Bytes x) (hb : Byt b) : (addR a x b).length = n ∧ Bytes (addR a x b) := ⟨by rw [addR_len]; exact ha.1, bytes_addR ha.2 hx hb⟩
theorem row_set_self {rows : List (List Int)} {i : Nat} (hi : i < rows.length) (r : List Int) : row (rows.set i r) i = r := by unfold row; simp [hi]
theorem row_set_ne {rows : List (List Int)} {i j : Nat} (h : i ≠ j) (r : List Int) : row (rows.set i r) j = row rows j := by unfold row; simp [List.getElem?_set_ne h]
/-- what rs.Fix has at hand -/
structure FS (w0 w : World) (G : Nat) (hs : List Value) (rows : List (List Int)) (vp : Value) (p : List Int) (vq : Value) (q : List Int) (vg : Value) (gone : List Int) : Prop where
  B : Below w0.heap.size w0 w
  O : Out w w0.heap.size G hs rows
  P : Beside w w0.heap.size hs vp p
  Q : Beside w w0.heap.size hs vq q
  g : w.ownsRow w0.heap.size 3 1 vg gone.length (encs (Value.int .i64) gone)
namespace FS
variable {w0 w w1 : World} {G : Nat} {hs : List Value} {rows rows' : List (List Int)} {vp vq vg h : Value} {p q gone : List Int} {i : Nat}
theorem below (F : FS w0 w G hs rows vp p vq q vg gone) (hb : Below w.heap.size w w1) : FS w0 w1 G hs rows vp p vq q vg gone :=
  ⟨F.B.trans (hb.mono F.B.size), F.O.below hb, F.P.below hb, F.Q.below hb, pw_own_below F.g hb⟩
theorem drew (F : FS w0 w G hs rows vp p vq q vg gone) : FS w0 w.drew G hs rows vp p vq q vg gone := F.below (below_drew1 (Below.refl _ _))
theorem after (F : FS w0 w G hs rows vp p vq q vg gone) (hi : hs[i]? = some h) (O : Out w1 w0.heap.size G hs rows') (hB : Below w0.heap.size w0 w1) (hk : Kept w w1 (fun k => some k = h.ownBlock)) : FS w0 w1 G hs rows' vp p vq q vg gone := by
  refine ⟨hB, O, F.P.kept hi hk, F.Q.kept hi hk, own_move F.g (fun k e => hk.2 k (own_lt F.g k e) (fun h2 => ?_))⟩
  have hil : i < rows.length := by have := (List.getElem?_eq_some_iff.1 hi).1; have := F.O.len; omega
  rcases own_type_ne (F.O.row i h rows[i] hi (List.getElem?_eq_getElem hil)) F.g (by decide) with h1 | h1
  · rw [h1] at h2; cases h2
  · exact h1 (by rw [← h2, e])
end FS
set_option maxRecDepth 100000 in
set_option maxHeartbeats 2000000 in
theorem two_any {w0 w : World} {G n a b : Nat} {hs : List Value} {rows : List (List Int)} {vp vq vg : Value} {p q gone : List Int} (F : FS w0 w G hs rows vp p vq q vg gone) (ha : a < rows.length) (hb : b < rows.length) (hab : a ≠ b) (h16 : rows.length ≤ 16)
    (hg : GoodR n rows) (hp : p.length = n ∧ Bytes p) (hq : q.length = n ∧ Bytes q) (hn : n ≤ 1000000) :
    Calls Try.prog 55 #[.slice (some ⟨G, 0, none⟩) rows.length rows.length, .int .i64 (a : Int), .int .i64 (b : Int), vp, vq] w fun e w' => e = .returned (.tuple #[]) ∧ FS w0 w' G hs (twoR rows a b p q) vp p vq q vg gone := by
  have hx0 := Lib.hid (xor_ne (a := a) (b := b) (by omega) (by omega) hab)
  obtain ⟨hA, ia⟩ := F.O.get ha
  obtain ⟨hB, ib⟩ := F.O.get hb
  have F0 := Lib.hid F
  have IA := Lib.hid ia
  have IB := Lib.hid ib
  clear F ia ib
  go_enter Try.func55, Try.ntmps55
  go_wp2_with fail
  refine (exp_any a (by omega) w).mono ?_
  rintro e w1 ⟨rfl, hb1⟩
  have F1 := Lib.hid (F0.out.below hb1)
  clear F0 hb1
  go_wp2_with fail
  refine (exp_any b (by omega) w1).mono ?_
  rintro e w2 ⟨rfl, hb2⟩
  have F2 := Lib.hid (F1.out.below hb2)
  clear F1 hb2
  go_wp2_with fail
  rw [xor_u8 (byt_exp a) (byt_exp b)]
  refine (inv_any _ (byt_xor (byt_exp a) (byt_exp b)) hx0.out w2).mono ?_
  rintro e w3 ⟨rfl, hb3⟩
  have F3 := Lib.hid (F2.out.below hb3)
  clear F2 hb3
  have bE : Byt (invI (xorI (expI a) (expI b))) := byt_inv (byt_xor (byt_exp a) (byt_exp b))
  have hE : twoR rows a b p q = ((rows.set a (addR (addR (row rows a) q (invI (xorI (expI a) (expI b)))) p (mulI (invI (xorI (expI a) (expI b))) (expI b)))).set b (addR (addR (row rows b) p 1) (addR (addR (row rows a) q (invI (xorI (expI a) (expI b)))) p (mulI (invI (xorI (expI a) (expI b))) (expI b))) 1)) := rfl
  have HE := Lib.hid hE
  clear hE
  generalize invI (xorI (expI a) (expI b)) = E at bE HE ⊢
  have BE := Lib.hid bE
  have c3 := F3.out.O.cell IA.out
  clear bE
  go_wp2_with fail
  refine (out_add F3.out.B F3.out.O IA.out F3.out.Q (by rw [(good_row hg ha).1, hq.1]; exact Nat.le_refl _) (by rw [hq.1]; exact hn) (good_row hg ha).2 hq.2 BE.out).mono ?_
  rintro e w4 ⟨rfl, O4, B4, K4⟩
  have F4 := Lib.hid (F3.out.after IA.out O4 B4 K4)
  clear O4 B4 K4 c3 F3
  have c4 := F4.out.O.cell IA.out
  have g4 : GoodR n (rows.set a (addR (row rows a) q E)) := good_set hg (good_add (good_row hg ha) hq.2 BE.out)
  have r4 : row (rows.set a (addR (row rows a) q E)) a = addR (row rows a) q E := row_set_self ha _
  obtain ⟨R4, hR4⟩ : ∃ R, rows.set a (addR (row rows a) q E) = R := ⟨_, rfl⟩
  have l4 : R4.length = rows.length := by rw [← hR4, List.length_set]
  rw [hR4] at F4 g4 r4
  have R4H := Lib.hid (And.intro hR4 r4)
  clear hR4 r4
  have L4 := Lib.hid l4
  clear l4
  have c4d : w4.drew.cell? ⟨G, a, none⟩ = some hA := c4
  go_wp2_with fail
  go_region_held3 (fun w' => w'.cell? ⟨G, a, none⟩ = some hA)
    (first | with_reducible exact c4d | with_reducible exact c6 | with_reducible exact c5)
    (first
      | (go_at_call 72; (with_reducible refine (mulI_any E (expI b) BE.out (byt_exp b) _).mono ?_); rintro e w5 ⟨rfl, hb5⟩; have F5 := Lib.hid (F4.out.drew.below hb5); have c5 := F5.out.O.cell IA.out)
      | (go_at_call 54; (with_reducible refine (out_add F5.out.B F5.out.O IA.out F5.out.P (by rw [(good_row g4 (by rw [L4.out]; exact ha)).1, hp.1]; exact Nat.le_refl _) (by rw [hp.1]; exact hn) (good_row g4 (by rw [L4.out]; exact ha)).2 hp.2 (byt_mul (byt_exp b))).mono ?_); rintro e w6 ⟨rfl, O6, B6, K6⟩; have F6 := Lib.hid (F5.out.after IA.out O6 B6 K6); have c6 := F6.out.O.cell IA.out; clear O6 B6 K6))
  have g6 : GoodR n (R4.set a (addR (row R4 a) p (mulI E (expI b)))) := good_set g4 (good_add (good_row g4 (by rw [L4.out]; exact ha)) hp.2 (byt_mul (byt_exp b)))
  have r6 : row (R4.set a (addR (row R4 a) p (mulI E (expI b)))) a = addR (row R4 a) p (mulI E (expI b)) ∧ row (R4.set a (addR (row R4 a) p (mulI E (expI b)))) b = row rows b := by
    refine ⟨row_set_self (by rw [L4.out]; exact ha) _, ?_⟩
    rw [row_set_ne hab, ← R4H.out.1, row_set_ne hab]
  obtain ⟨R6, hR6⟩ : ∃ R, R4.set a (addR (row R4 a) p (mulI E (expI b))) = R := ⟨_, rfl⟩
  have l6 : R6.length = rows.length := by rw [← hR6, List.length_set]; exact L4.out
  rw [hR6] at F6 g6 r6
  have R6H := Lib.hid (And.intro hR6 r6)
  clear hR6 r6
  have L6 := Lib.hid l6
  clear l6 c4 c4d c5
  have d6 := F6.out.O.cell IB.out
  have b1 : Byt 1 := ⟨by omega, by omega⟩
  have B1 := Lib.hid b1
  clear b1
  go_wp2_with fail
  refine (out_add F6.out.B F6.out.O IB.out F6.out.P (by rw [(good_row g6 (by rw [L6.out]; exact hb)).1, hp.1]; exact Nat.le_refl _) (by rw [hp.1]; exact hn) (good_row g6 (by rw [L6.out]; exact hb)).2 hp.2 B1.out).mono ?_
  rintro e w7 ⟨rfl, O7, B7, K7⟩
  have F7 := Lib.hid (F6.out.after IB.out O7 B7 K7)
  clear O7 B7 K7 c6 d6
  have g7 : GoodR n (R6.set b (addR (row R6 b) p 1)) := good_set g6 (good_add (good_row g6 (by rw [L6.out]; exact hb)) hp.2 B1.out)
  have r7 : row (R6.set b (addR (row R6 b) p 1)) b = addR (row R6 b) p 1 ∧ row (R6.set b (addR (row R6 b) p 1)) a = row R6 a := ⟨row_set_self (by rw [L6.out]; exact hb) _, row_set_ne (Ne.symm hab) _⟩
  obtain ⟨R7, hR7⟩ : ∃ R, R6.set b (addR (row R6 b) p 1) = R := ⟨_, rfl⟩
  have l7 : R7.length = rows.length := by rw [← hR7, List.length_set]; exact L6.out
  rw [hR7] at F7 g7 r7
  have R7H := Lib.hid (And.intro hR7 r7)
  clear hR7 r7
  have L7 := Lib.hid l7
  clear l7
  have c7 : w7.cell? ⟨G, a, none⟩ = some hA := F7.out.O.cell IA.out
  have d7 : w7.cell? ⟨G, b, none⟩ = some hB := F7.out.O.cell IB.out
  have c7d : w7.drew.cell? ⟨G, a, none⟩ = some hA := c7
  have d7d : w7.drew.cell? ⟨G, b, none⟩ = some hB := d7
  have HG7 := Lib.hid g7
  clear g7 g6 g4
  go_wp2_with fail
  go_region_held3 (fun w' => w'.cell? ⟨G, a, none⟩ = some hA ∧ w'.cell? ⟨G, b, none⟩ = some hB)
    (first | with_reducible exact ⟨c7d, d7d⟩ | with_reducible exact ⟨c8, d8⟩)
    ((go_at_call 54; (with_reducible refine (out_add_row F7.out.drew.B F7.out.drew.O IB.out IA.out (Ne.symm hab) (by rw [(good_row HG7.out (by rw [L7.out]; exact ha)).1, (good_row HG7.out (by rw [L7.out]; exact hb)).1]; exact Nat.le_refl _) (by rw [(good_row HG7.out (by rw [L7.out]; exact ha)).1]; exact hn) (good_row HG7.out (by rw [L7.out]; exact hb)).2 (good_row HG7.out (by rw [L7.out]; exact ha)).2 B1.out).mono ?_); rintro e w8 ⟨rfl, O8, B8, K8⟩; have F8 := Lib.hid (F7.out.drew.after IB.out O8 B8 K8); have c8 := F8.out.O.cell IA.out; have d8 := F8.out.O.cell IB.out; clear O8 B8 K8))
  go_wp2_with fail
  go_returns
  refine ⟨rfl, ?_⟩
  have F9 := F8.out
  rw [HE.out]
  have e9 : R7.set b (addR (row R7 b) (row R7 a) 1) = (rows.set a (addR (addR (row rows a) q E) p (mulI E (expI b)))).set b (addR (addR (row rows b) p 1) (addR (addR (row rows a) q E) p (mulI E (expI b))) 1) := by
    rw [R7H.out.2.1, R7H.out.2.2, R6H.out.2.1, R6H.out.2.2, R4H.out.2, ← R7H.out.1, ← R6H.out.1, ← R4H.out.1, List.set_set, List.set_set, row_set_self ha]
  rw [← e9]
  exact F9
end Go.Proofs.Ytodbmgafejclmaa.Tw
namespace Go.Proofs.Ytodbmgafejclmaa.So
open Go.RowKit Go.Proofs.YtodbmgafejclmaaW.PrintWords
open Go.Proofs.Ytodbmgafejclmaa.Base (IterC range_c)
set_option linter.unusedSimpArgs false
set_option linter.unusedVariables false
theorem wide_fn (f : FuncId) : Fence.wide.fn f = True := rfl
theorem wide_depth : Fence.wide.depth = none := rfl
attribute [local go_sem] wide_fn wide_depth Oper.semAt_some
/-- only draws -/
def StD (A B : World) : Prop := ∃ n, B = A.drewN n
/-- below n₀ all but block Bx is as it was -/
structure KpE (n₀ Bx : Nat) (A B : World) : Prop where
  size : A.heap.size ≤ B.heap.size
  block : ∀ k, k < n₀ → k ≠ Bx → B.heap[k]? = A.heap[k]?
theorem KpE.refl {n₀ Bx : Nat} (A : World) : KpE n₀ Bx A A := ⟨Nat.le_refl _, fun _ _ _ => rfl⟩
theorem KpE.trans {n₀ Bx : Nat} {A B C : World} (h : KpE n₀ Bx A B) (k : KpE n₀ Bx B C) : KpE n₀ Bx A C := ⟨Nat.le_trans h.size k.size, fun i h1 h2 => (k.block i h1 h2).trans (h.block i h1 h2)⟩
/-- what lies in these blocks reads as it read -/
theorem at_kept {w W : World} {a : Addr} {v : Value} {n₀ Bx : Nat} (h : KpE n₀ Bx w W) (hc : w.cell? a = some v) (h1 : a.block < n₀) (h2 : a.block ≠ Bx) : W.cell? a = some v := by
  rw [World.cell?_of_block (h.block a.block h1 h2)]; exact hc
set_option maxRecDepth 100000 in
set_option maxHeartbeats 1000000 in
theorem values1_c (Bs n₀ Bx : Nat) (hBs : Bs < n₀) (hBx : Bs ≠ Bx) (A : Option Addr) (c : Nat) (xs : List Int) (hm : xs.length ≤ 1000000) (w : World) (fs : w.cell? ⟨Bs, 0, none⟩ = some (.slice A xs.length c)) (hr : Kd.C (Kd.int .i64) w A xs.length xs)
    (hA : 0 < xs.length → ∀ ad, A = some ad → ad.block < n₀ ∧ ad.block ≠ Bx) (hn : n₀ ≤ w.heap.size) :
    IterC Try.prog 71 #[.pointer (some ⟨Bs, 0, none⟩)] (fun x : Int => #[.int .i64 x]) StD (KpE n₀ Bx) (fun ys => ys = xs) (fun pre => pre <+: xs) xs.length w := by
  intro l J Jx W hbW hJ hJx hY h0
  have k0 : KpE n₀ Bx w W := ⟨hbW.size, fun k h1 _ => hbW.block k (by omega)⟩
  have HR := Lib.hid hr
  have HA := Lib.hid hA
  have fs1 := at_kept k0 fs hBs hBx
  clear hr hA
  refine callsIn_of_wp Try.func71 rfl trivial ?_ rfl
  simp only [Try.ntmps71, List.size_toArray, List.length_cons, List.length_nil, Nat.reduceAdd, Nat.reduceSub, Array.replicate_succ, Array.replicate_zero, List.push_toArray, List.append_toArray, List.nil_append, List.cons_append]
  gi_wp2
  gi_loopw [7] (fun i wr => ∃ j : Nat, i = .int .i64 j ∧ j ≤ xs.length ∧ J (xs.take j) wr ∧ KpE n₀ Bx w wr) (fun i _ => xs.length - (intOf i).toNat)
  case atStart => exact ⟨0, rfl, Nat.zero_le _, by simpa using h0, k0⟩
  case round =>
    obtain ⟨j, rfl, hj, hJp, kp⟩ := hrel
    by_cases hjl : j < xs.length
    · obtain ⟨ad, e, hx⟩ := Kd.at_int HR.out (j : Int) (by omega) (by omega)
      subst e
      have hA2 := HA.out (by omega) ad rfl
      have hx2 : wr.cell? (ad.add j) = some (.int .i64 xs[j]) := by
        have h3 := at_kept (a := ad.add (j : Int).toNat) kp hx (by rw [add_block]; exact hA2.1) (by rw [add_block]; exact hA2.2)
        have h4 : Go.Proofs.YtodbmgafejclmaaW.PrintWords.rd xs (j : Int) = xs[j] := by unfold Go.Proofs.YtodbmgafejclmaaW.PrintWords.rd; simp [hjl]
        rw [h4] at h3
        simpa using h3
      have htk : xs.take (j + 1) = xs.take j ++ [xs[j]] := List.take_succ_eq_append_getElem hjl
      have hlen : (xs.take j).length = j := by simp; omega
      have HTK := Lib.hid htk
      have hpre : (xs.take j ++ [xs[j]]) <+: xs := by rw [← htk]; exact List.take_prefix _ _
      obtain ⟨fn, tmps, assign, body, hy, hR⟩ := hY (xs.take j) xs[j] wr hJp (by rw [hlen]; exact hjl) hpre
      clear htk hx hlen
      gi_wp2
      refine hR.mono ?_
      rintro e W3 (⟨rfl, hJ3, hk3⟩ | ⟨rfl, hJx3⟩)
      · gi_wp2
        go_roundw
        case rel => exact ⟨j + 1, by simp, by omega, by rw [HTK.out]; exact hJ3, kp.trans hk3⟩
        case measure => simp [intOf]; omega
      · gi_wp2
        refine bodyPost_ret (results_none rfl _ _ _) rfl ?_
        exact ⟨⟨_, rfl⟩, .inr ⟨_, hpre, hJx3⟩⟩
    · obtain rfl : j = xs.length := by omega
      gi_wp2
      go_end0
      refine ⟨⟨_, rfl⟩, .inl ⟨_, rfl, ?_⟩⟩
      rw [List.take_length] at hJp
      exact hJp
theorem info_int : (Try.prog.info? 3).map (fun i => (i.zero, i.size, i.bytes)) = some (some (.int .i64 0), 1, 8) := by kernel_rfl
set_option maxRecDepth 100000 in
set_option maxHeartbeats 2000000 in
theorem appendSeq_any (Bs : Nat) (A : Option Addr) (c : Nat) (xs : List Int) (hm : xs.length ≤ 1000000) (w : World) (hBs : Bs < w.heap.size) (fs : w.cell? ⟨Bs, 0, none⟩ = some (.slice A xs.length c)) (hr : Kd.C (Kd.int .i64) w A xs.length xs) :
    Calls Try.prog 77 #[.slice none 0 0, .func (.func 71) #[] #[.pointer (some ⟨Bs, 0, none⟩)]] w fun e w' =>
      ∃ v, e = .returned v ∧ w'.ownsRow w.heap.size 3 1 v xs.length (xs.map (Value.int .i64)) ∧ Below w.heap.size w w' := by
  obtain ⟨i0, hi, hz0, hz1, hz2⟩ := info_parts info_int
  have hA : 0 < xs.length → ∀ ad, A = some ad → ad.block < w.heap.size ∧ ad.block ≠ w.heap.size := by
    intro h0 ad e
    obtain ⟨ad', e', hx⟩ := Kd.at_int hr 0 (by omega) (by omega)
    rw [e] at e'
    cases e'
    have := World.block_lt_of_cell? w _ hx
    rw [add_block] at this
    omega
  refine (callsIn_wide (n := 0)).1 ?_
  refine callsIn_of_wp_marks Try.func77 rfl trivial ?_ rfl
  simp only [Try.ntmps77, List.size_toArray, List.length_cons, List.length_nil, Nat.reduceAdd, Nat.reduceSub, Array.replicate_succ, Array.replicate_zero, List.push_toArray, List.append_toArray, List.nil_append, List.cons_append]
  gi_wp2_with fail
  have bO := Boxed.new w 23 (.slice none 0 0)
  have hB0 : Below w.heap.size w (w.alloc (.cells #[.slice none 0 0] 23)) := (Below.refl _ w).alloc (Nat.le_refl _) _
  have hI : OwnFrom (w.alloc (.cells #[.slice none 0 0] 23)).heap.size (fun (pre : List Int) W => (∃ v, Boxed W w.heap.size 23 v ∧ W.ownsRow w.heap.size 3 1 v pre.length (pre.map (Value.int .i64)) ∧ (v = .slice none 0 0 ↔ pre = [])) ∧ Below w.heap.size w W) :=
    OwnFrom.and (Own.from (holdsRow_own w.heap.size w.heap.size 23 3 1 (fun pre : List Int => pre.length) (fun pre => pre.map (Value.int .i64)) (fun pre v => v = .slice none 0 0 ↔ pre = [])) _) (ownFrom_below (Nat.le_refl _) (by simp))
  refine range_c (gf := 71) (lb := #[.pointer (some ⟨Bs, 0, none⟩)]) rfl (fun _ _ => rfl)
    (values1_c Bs w.heap.size w.heap.size hBs (by omega) A c xs hm _ ((hB0.cell (p := ⟨Bs, 0, none⟩) hBs).trans fs) (Kd.C_below hr hB0) hA (by simp))
    (fun h k => h.trans k) (fun W l o o' hl h _ _ => ⟨by simp, fun k h1 h2 => World.putObj_heap_other (by simp at hl; omega)⟩) (fun A B ⟨n, e⟩ => by subst e; exact ⟨Nat.le_refl _, fun _ _ h _ => h⟩) (Below.refl _ _) (fun _ => rfl)
    _ (fun _ _ _ => False) hI (fun c pre A B row h => h.elim) ?_ (fun _ _ _ _ _ h => h) ⟨⟨_, bO, World.ownsRow_nil _ _ _ _, by simp⟩, hB0⟩ ?_ ?_ ?_
  · rintro pre A B ⟨n, rfl⟩ ⟨⟨v, hv, hrow, hnil⟩, hB⟩
    exact ⟨⟨v, hv, hrow, hnil⟩, pw_below_drewN hB n⟩
  · rintro l pre x W hi2 hlen hsp hsz
    gi_wp2_with fail
    refine ⟨KeepsOthers.refl _, KpE.refl _, fun X => _, fun A B row h hg hr => hI _ _ _ _ h hg hr, hi2, ?_⟩
    rintro W₂ ⟨⟨v, hv, hrow, hnil⟩, hB⟩ h4
    clear h4 hsz
    have hc := hv.cell
    have hlx : pre.length < xs.length := hlen
    gi_wp2_with (gi_at_builtin; refine wpListIn_append_own _ rfl _ _ 23 rfl w.heap.size 3 i0 (.int .i64 0) 1 8 Try.underlying23 hi hz0 hz1 hz2 rfl (by decide) _ _ _ rfl (hrow.alloc _) ⟨W₂.heap.size, 0, none⟩ 1 1 [.int .i64 x] rfl rfl (cell_one_new _ _ _) (by simp [Value.oneCell']) (by unfold maxLen; omega) (by omega) (by have := hB.size; simp; omega) ?_; intro v' w1 hown' hgrow _; obtain ⟨g', cap', rfl⟩ := ownsRow_succ hown'; obtain ⟨hv1, hv2, hr2, hk2, hb2⟩ := hv.appended (by decide) hrow hB.size (Nat.le_refl _) hown' hgrow; have hc1 := hv1.cell; have hf1 := hv1.frozen)
    exact ⟨hk2, ⟨hb2.size, fun k h1 _ => hb2.block k h1⟩, ⟨_, hv2, by simpa using hr2, by simp⟩, hB.trans hb2⟩
  · rintro D ys W hDl rfl ⟨⟨v, hv, hrow, hnil⟩, hB⟩ hD
    have hc := hv.cell
    gi_wp2_with fail
    refine ⟨by simp, .inl ⟨_, _, rfl, run_takeDeferred hD, ?_⟩⟩
    exact ⟨_, results_tmp rfl _ _ _, v, rfl, ownsRow_putObj hrow _ hD rfl, hB.trans (belowK_b (w := w) (Nat.le_refl _) W D _ _ (by simp at hDl; omega) hD rfl rfl)⟩
  · intro D c pre W _ _ h; exact h.elim
theorem values_any (A : Option Addr) (n c : Nat) (w : World) :
    Calls Try.prog 52 #[.slice A n c] w fun e w' => e = .returned (.func (.func 71) #[] #[.pointer (some ⟨w.heap.size, 0, none⟩)]) ∧ w' = w.alloc (.cells #[.slice A n c] 23) := by
  go_enter Try.func52, Try.ntmps52
  go_wp2
  go_ret
  exact ⟨rfl, rfl⟩
theorem collect_any (Bs : Nat) (A : Option Addr) (c : Nat) (xs : List Int) (hm : xs.length ≤ 1000000) (w : World) (hBs : Bs < w.heap.size) (fs : w.cell? ⟨Bs, 0, none⟩ = some (.slice A xs.length c)) (hr : Kd.C (Kd.int .i64) w A xs.length xs) :
    Calls Try.prog 69 #[.func (.func 71) #[] #[.pointer (some ⟨Bs, 0, none⟩)]] w fun e w' =>
      ∃ v, e = .returned v ∧ w'.ownsRow w.heap.size 3 1 v xs.length (xs.map (Value.int .i64)) ∧ Below w.heap.size w w' := by
  go_enter Try.func69, Try.ntmps69
  go_wp2_with fail
  refine (appendSeq_any Bs A c xs hm w hBs fs hr).mono ?_
  rintro e w1 ⟨v, rfl, hown, hb⟩
  have HO := Lib.hid hown
  clear hown
  go_wp2
  go_ret
  exact ⟨v, rfl, HO.out, hb⟩
end Go.Proofs.Ytodbmgafejclmaa.So
namespace Go.Proofs.Ytodbmgafejclmaa.Kp
open Go.RowKit Go.Proofs.YtodbmgafejclmaaW.PrintWords
open Go.Proofs.Ytodbmgafejclmaa.Base (IterC range_c)
open Go.Proofs.Ytodbmgafejclmaa.So Go.Proofs.Ytodbmgafejclmaa.PRq Go.Proofs.Ytodbmgafejclmaa.Fld Go.Proofs.Ytodbmgafejclmaa.Pl
set_option linter.unusedSimpArgs false
set_option linter.unusedVariables false
theorem wide_fn (f : FuncId) : Fence.wide.fn f = True := rfl
theorem wide_depth : Fence.wide.depth = none := rfl
attribute [local go_sem] wide_fn wide_depth Oper.semAt_some
theorem index_l0 (L : List Int) (a : Int) (hL : L.length ≤ 1000000) : ∀ d i : Nat, d = L.length - i → i ≤ L.length → ∃ r : Int, Ev (fun k => slices_Index_int_int.l0 k L a (L.length : Int) (i : Int)) r ∧ decide (r ≥ 0) = (L.drop i).contains a
  | 0, i, hd, hi => by
    refine ⟨-1, Ev.step (f := fun _ => some (-1)) (fun k => ?_) (Ev.now _), ?_⟩
    · rw [slices_Index_int_int.l0, if_neg (by omega)]
    · rw [List.drop_eq_nil_of_le (by omega)]; rfl
  | d + 1, i, hd, hi => by
    have hiL : i < L.length := by omega
    have hdr : L.drop i = L[i] :: L.drop (i + 1) := List.drop_eq_getElem_cons hiL
    have hrd : rd L (i : Int) = L[i] := by unfold rd; simp [hiL]
    by_cases h : a = L[i]
    · refine ⟨(i : Int), Ev.step (f := fun _ => some (i : Int)) (fun k => ?_) (Ev.now _), ?_⟩
      · rw [slices_Index_int_int.l0, if_pos (by omega), if_pos (by omega), if_pos (by omega), hrd, if_pos h]
      · rw [hdr, List.contains_cons, h]
        simp
    · obtain ⟨r, h1, h2⟩ := index_l0 L a hL d (i + 1) (by omega) (by omega)
      refine ⟨r, Ev.step (f := fun k => slices_Index_int_int.l0 k L a (L.length : Int) ((i + 1 : Nat) : Int)) (fun k => ?_) h1, ?_⟩
      · rw [slices_Index_int_int.l0, if_pos (by omega), if_pos (by omega), if_pos (by omega), hrd, if_neg h, w64 (by omega) (by omega)]; rfl
      · rw [h2, hdr, List.contains_cons]
        have : (a == L[i]) = false := by rw [beq_eq_false_iff_ne]; exact h
        rw [this, Bool.false_or]
theorem contains_ev (L : List Int) (a : Int) (hL : L.length ≤ 1000000) : Ev (fun k => slices_Contains_int_int.f k L a) (L.contains a) := by
  obtain ⟨r, h1, h2⟩ := index_l0 L a hL L.length 0 (by omega) (by omega)
  rw [List.drop_zero] at h2
  rw [← h2]
  exact Ev.bind (g := fun k => slices_Index_int_int.f k L a) (f := fun _ t => some (decide (t ≥ 0))) h1 (Ev.now _)
theorem contains_any (A : Option Addr) (n c : Nat) (L : List Int) (a : Int) (w : World) (hn : n = L.length) (hL : L.length ≤ 1000000) (hr : Kd.C (Kd.int .i64) w A n L) (hc : n ≤ c) :
    Calls Try.prog 67 #[.slice A n c, .int .i64 a] w fun e w' => e = .returned (.bool (L.contains a)) ∧ ∃ m, w' = w.drewN m := by
  subst hn
  obtain ⟨k, hk⟩ := (contains_ev L a hL).rounds
  refine (slices_Contains_int_int.calls k A c L a _ w hr hc hk).mono ?_
  rintro e w' ⟨rfl, ⟨m, rfl⟩⟩
  exact ⟨rfl, m, rfl⟩
def idx (n : Nat) (lost : List Int) : List Nat := (List.range n).filter fun i => !lost.contains (i : Int)
theorem zipIdx_range (L : List (List Int)) : L.zipIdx = (List.range L.length).map fun i => (row L i, i) := by
  apply List.ext_getElem (by simp)
  intro i h1 h2
  simp at h1
  simp [row, h1]
theorem kept_idx (L : List (List Int)) (lost : List Int) : kept L lost = (idx L.length lost).map (row L) := by
  unfold kept idx
  rw [zipIdx_range, List.filter_map, List.map_map]
  rfl
theorem idx_lt {n : Nat} {lost : List Int} {i : Nat} (h : i ∈ idx n lost) : i < n := by
  unfold idx at h
  rw [List.mem_filter] at h
  simpa using h.1
theorem idx_len (n : Nat) (lost : List Int) : (idx n lost).length ≤ n := by
  unfold idx
  have := List.length_filter_le (fun i : Nat => !lost.contains (i : Int)) (List.range n)
  simpa using this
theorem idx_succ (n : Nat) (lost : List Int) : idx (n + 1) lost = idx n lost ++ (if lost.contains (n : Int) then [] else [n]) := by
  unfold idx
  rw [List.range_succ, List.filter_append]
  congr 1
  by_cases h : (n : Int) ∈ lost
  · simp [List.filter, h]
  · simp [List.filter, h]
theorem idx_prefix {m n : Nat} (h : m ≤ n) (lost : List Int) : idx m lost <+: idx n lost := by
  induction n with
  | zero => obtain rfl : m = 0 := by omega
            exact List.prefix_refl _
  | succ n ih =>
    by_cases e : m = n + 1
    · subst e; exact List.prefix_refl _
    · rw [idx_succ]
      exact (ih (by omega)).trans (List.prefix_append _ _)
set_option maxRecDepth 100000 in
set_option maxHeartbeats 1000000 in
theorem kept1_c (Bl Bo n₀ Bx : Nat) (hBl : Bl < n₀) (hBo : Bo < n₀) (hBlx : Bl ≠ Bx) (hBox : Bo ≠ Bx) (A A' : Option Addr) (n c c' : Nat) (hd : Nat → Value) (lost : List Int) (hn : n ≤ 1000000) (hm : lost.length ≤ 1000000) (hc' : lost.length ≤ c') (w : World) (hn0 : n₀ ≤ w.heap.size)
    (fl : w.cell? ⟨Bl, 0, none⟩ = some (.slice A n c)) (fo : w.cell? ⟨Bo, 0, none⟩ = some (.slice A' lost.length c'))
    (hx : ∀ i : Nat, i < n → ∃ ad, A = some ad ∧ ∀ W, KpE n₀ Bx w W → W.cell? (ad.add i) = some (hd i))
    (ho : ∀ W, KpE n₀ Bx w W → Kd.C (Kd.int .i64) W A' lost.length lost) :
    IterC Try.prog 76 #[.pointer (some ⟨Bl, 0, none⟩), .pointer (some ⟨Bo, 0, none⟩)] (fun i : Nat => #[hd i]) StD (KpE n₀ Bx) (fun xs => xs = idx n lost) (fun pre => pre <+: idx n lost) n w := by
  intro l J Jx W hbW hJ hJx hY h0
  have k0 : KpE n₀ Bx w W := ⟨hbW.size, fun k h1 _ => hbW.block k (by omega)⟩
  have HX := Lib.hid hx
  have HO := Lib.hid ho
  have HJ := Lib.hid hJ
  have fl1 := at_kept k0 fl hBl hBlx
  clear hx ho hJ
  refine callsIn_of_wp Try.func76 rfl trivial ?_ rfl
  simp only [Try.ntmps76, List.size_toArray, List.length_cons, List.length_nil, Nat.reduceAdd, Nat.reduceSub, Array.replicate_succ, Array.replicate_zero, List.push_toArray, List.append_toArray, List.nil_append, List.cons_append]
  gi_wp2
  gi_loopw [8] (fun i wr => ∃ j : Nat, i = .int .i64 j ∧ j ≤ n ∧ J (idx j lost) wr ∧ KpE n₀ Bx w wr) (fun i _ => n - (intOf i).toNat)
  case atStart => exact ⟨0, rfl, Nat.zero_le _, by simpa [idx] using h0, k0⟩
  case round =>
    obtain ⟨j, rfl, hj, hJp, kp⟩ := hrel
    by_cases hjl : j < n
    · obtain ⟨ad, e, hx2⟩ := HX.out j hjl
      subst e
      have hx3 := hx2 wr kp
      have fo1 := at_kept kp fo hBo hBox
      have hlen : (idx j lost).length ≤ j := idx_len j lost
      have HP := Lib.hid (idx_prefix (m := j + 1) (n := n) (by omega) lost)
      have HS := Lib.hid (idx_succ j lost)
      have HC := Lib.hid (contains_any A' lost.length c' lost (j : Int) wr rfl hm (HO.out wr kp) hc')
      clear hx2
      by_cases hc : lost.contains (j : Int)
      · have HCc := Lib.hid hc
        rw [hc] at HC
        clear hc
        gi_wp2_with fail
        refine (callsIn_wide.2 HC.out).mono ?_
        rintro e w1 ⟨rfl, q, rfl⟩
        gi_wp2_with fail
        go_roundw
        case rel =>
          refine ⟨j + 1, by simp, by omega, ?_, ⟨kp.size, kp.block⟩⟩
          rw [HS.out, if_pos HCc.out, List.append_nil]
          exact HJ.out _ _ _ ⟨q, rfl⟩ hJp
        case measure => simp [intOf]; omega
      · have HCc := Lib.hid hc
        rw [Bool.not_eq_true] at hc
        rw [hc] at HC
        clear hc
        have hpre : (idx j lost ++ [j]) <+: idx n lost := by
          have := HP.out
          rwa [HS.out, if_neg HCc.out] at this
        have hY1 := Lib.hid (hY (idx j lost) j)
        gi_wp2_with fail
        refine (callsIn_wide.2 HC.out).mono ?_
        rintro e w1 ⟨rfl, q, rfl⟩
        obtain ⟨fn, tmps, assign, body, hy, hR⟩ := hY1.out (wr.drewN q) (HJ.out _ _ _ ⟨q, rfl⟩ hJp) (by omega) hpre
        gi_wp2_with fail
        refine hR.mono ?_
        rintro e W3 (⟨rfl, hJ3, hk3⟩ | ⟨rfl, hJx3⟩)
        · gi_wp2_with fail
          go_roundw
          case rel =>
            refine ⟨j + 1, by simp, by omega, ?_, ⟨Nat.le_trans kp.size hk3.size, fun k h1 h2 => (hk3.block k h1 h2).trans (kp.block k h1 h2)⟩⟩
            rw [HS.out, if_neg HCc.out]
            exact hJ3
          case measure => simp [intOf]; omega
        · gi_wp2_with fail
          refine bodyPost_ret (results_none rfl _ _ _) rfl ?_
          exact ⟨⟨_, rfl⟩, .inr ⟨_, hpre, hJx3⟩⟩
    · obtain rfl : j = n := by omega
      gi_wp2
      go_end0
      exact ⟨⟨_, rfl⟩, .inl ⟨_, rfl, hJp⟩⟩
theorem kept_any (A A' : Option Addr) (n n' c c' : Nat) (w : World) :
    Calls Try.prog 68 #[.slice A n c, .slice A' n' c'] w fun e w' => e = .returned (.func (.func 76) #[] #[.pointer (some ⟨w.heap.size, 0, none⟩), .pointer (some ⟨w.heap.size + 1, 0, none⟩)]) ∧ w' = (w.alloc (.cells #[.slice A n c] 48)).alloc (.cells #[.slice A' n' c'] 23) := by
  go_enter Try.func68, Try.ntmps68
  go_wp2
  go_ret
  exact ⟨by simp, rfl⟩
/-- an append to a row from n₀ on, and its header stored into a box -/
theorem kp_appended {W w1 : World} {n₀ B : Nat} {e : TypeId} {size : Nat} {v : Value} {k : Nat} {xs : List Value} {tmp : Obj} (hrow : W.ownsRow n₀ e size v k xs) (hgrow : (W.alloc tmp).grownBy w1 v.ownBlock) (hn : n₀ ≤ W.heap.size) (v' : Value) : KpE n₀ B W (w1.setCell ⟨B, 0, none⟩ v') := by
  refine ⟨?_, fun i h1 h2 => ?_⟩
  · have := hgrow.size
    simp [World.setCell] at this ⊢
    omega
  · rw [Below.heap_setCell w1 ⟨B, 0, none⟩ v' i h2, hgrow.block i (by simp; omega) (fun he => by have := own_base hrow i he.symm; omega)]
    exact Below.heap_alloc _ _ _ (by omega)
theorem info_row : (Try.prog.info? 24).map (fun i => (i.zero, i.size, i.bytes)) = some (some (.slice none 0 0), 1, 24) := by kernel_rfl
/-- the headers of a row of rows -/
def fA (w : World) (A : Option Addr) (i : Nat) : Option Addr := match A with
  | some ad => match w.cell? (ad.add i) with
    | some (.slice B _ _) => B
    | _ => none
  | none => none
def fc (w : World) (A : Option Addr) (i : Nat) : Nat := match A with
  | some ad => match w.cell? (ad.add i) with
    | some (.slice _ _ c) => c
    | _ => 0
  | none => 0
def hdr (w : World) (A : Option Addr) (L : List (List Int)) (i : Nat) : Value := .slice (fA w A i) (row L i).length (fc w A i)
theorem hdr_at {w : World} {A : Option Addr} {L : List (List Int)} (h : Kd.C (Kd.slice 5 (Kd.int .u8)) w A L.length L) (i : Nat) (hi : i < L.length) :
    ∃ ad, A = some ad ∧ w.cell? (ad.add i) = some (hdr w A L i) ∧ (row L i).length ≤ fc w A i ∧ Kd.C (Kd.int .u8) w (fA w A i) (row L i).length (row L i) := by
  obtain ⟨ad, A0, c0, e, h1, h2, h3⟩ := at_L1 h (i : Int) (by omega) (by omega)
  subst e
  have r0 : rd_L1 L (i : Int) = row L i := by unfold rd_L1 row; simp
  rw [r0] at h1 h2 h3
  simp only [Int.toNat_natCast] at h1
  have eA : fA w (some ad) i = A0 := by simp [fA, h1]
  have ec : fc w (some ad) i = c0 := by simp [fc, h1]
  exact ⟨ad, rfl, by rw [hdr, eA, ec]; exact h1, by rw [ec]; exact h2, by rw [eA]; exact h3⟩
/-- rows by their headers -/
theorem C_of_cells {W : World} {v : Value} {base : Nat} {L : List (List Int)} {xs : List Nat} {hd : Nat → Value} {ok : ∀ i, i ∈ xs → ∃ A c, hd i = .slice A (row L i).length c ∧ (row L i).length ≤ c ∧ Kd.C (Kd.int .u8) W A (row L i).length (row L i)}
    (h : W.ownsRow base 24 1 v xs.length (xs.map hd)) (hm : xs.length ≤ 1000000) : ∃ A c, v = .slice A (xs.map (row L)).length c ∧ (xs.map (row L)).length ≤ c ∧ Kd.C (Kd.slice 5 (Kd.int .u8)) W A (xs.map (row L)).length (xs.map (row L)) := by
  rcases h.2 with ⟨rfl, h0⟩ | ⟨g, cap, cur, rfl, hg, hh, hc1, _, _, _⟩
  · have : xs = [] := List.eq_nil_of_length_eq_zero h0
    subst this
    exact ⟨none, 0, rfl, Nat.le_refl _, Kd.C_nil _ _⟩
  · refine ⟨some ⟨g, 0, none⟩, cap, by rw [List.length_map], by rw [List.length_map]; exact hc1, rfl, by rw [List.length_map]; omega, fun _ => ⟨_, rfl, fun j p hj => ?_⟩⟩
    rw [List.getElem?_map] at hj
    obtain ⟨i, hi, rfl⟩ := Option.map_eq_some_iff.1 hj
    have him : i ∈ xs := List.mem_of_getElem? hi
    obtain ⟨A, c, e1, e2, e3⟩ := ok i him
    refine ⟨[hd i], rfl, ⟨A, c, by rw [e1], e2, e3⟩, fun q u hu => ?_⟩
    have hq : q = 0 := by
      have := (List.getElem?_eq_some_iff.1 hu).1
      simp at this
      omega
    subst hq
    simp only [List.getElem?_cons_zero, Option.some.injEq] at hu
    subst hu
    have := h.cells (g := g) rfl (j * 1 + 0) (hd i) (by rw [Nat.mul_one, Nat.add_zero, List.getElem?_map, hi]; rfl)
    exact this
theorem nodup_take_succ {L : List Int} {j : Nat} (h : j < L.length) : (L.take (j + 1)).Nodup ↔ (L.take j).Nodup ∧ ¬ (L.take j).contains L[j] = true := by
  rw [List.take_succ_eq_append_getElem h, List.nodup_append]
  simp only [List.nodup_cons, List.not_mem_nil, not_false_eq_true, List.nodup_nil, and_self, true_and, List.mem_singleton, List.contains_iff_mem]
  constructor
  · rintro ⟨h1, h2⟩
    exact ⟨h1, fun h3 => h2 _ h3 _ rfl rfl⟩
  · rintro ⟨h1, h2⟩
    refine ⟨h1, ?_⟩
    rintro a ha b rfl rfl
    exact h2 ha
theorem mayB_bad {l : List (List Int)} {lost : List Int} {j : Nat} (h : j < lost.length) (hb : lost[j] < 0 ∨ (l.length : Int) ≤ lost[j] ∨ (lost.take j).contains lost[j] = true) : mayB l lost = false := by
  rw [Bool.eq_false_iff]
  intro hm
  simp only [mayB, Bool.and_eq_true, decide_eq_true_eq, List.all_eq_true] at hm
  obtain ⟨⟨⟨_, h1⟩, h2⟩, _⟩ := hm
  have h3 := h1 _ (List.getElem_mem h)
  rcases hb with hb | hb | hb
  · omega
  · omega
  · have h4 : (lost.take (j + 1)).Nodup := h2.sublist (List.take_sublist _ _)
    exact ((nodup_take_succ h).1 h4).2 hb
theorem mayB_len {l : List (List Int)} {lost : List Int} (h : ¬ 4 ≤ l.length ∨ ¬ l.length ≤ 16 ∨ ¬ lost.length ≤ 2) : mayB l lost = false := by
  rw [Bool.eq_false_iff]
  intro hm
  simp only [mayB, Bool.and_eq_true, decide_eq_true_eq, List.all_eq_true] at hm
  obtain ⟨⟨⟨⟨⟨h1, h2⟩, h3⟩, _⟩, _⟩, _⟩ := hm
  omega
theorem mayB_of {l : List (List Int)} {lost : List Int} (h1 : 4 ≤ l.length) (h2 : l.length ≤ 16) (h3 : lost.length ≤ 2) (h4 : ∀ j (h : j < lost.length), 0 ≤ lost[j] ∧ lost[j] < l.length) (h5 : lost.Nodup) : mayB l lost = alikeR (kept l lost) := by
  have e : lost.all (fun i => decide (0 ≤ i) && decide (i < (l.length : Int))) = true := by
    rw [List.all_eq_true]
    intro x hx
    obtain ⟨j, hj, rfl⟩ := List.getElem_of_mem hx
    have := h4 j hj
    simp only [Bool.and_eq_true, decide_eq_true_eq]
    exact this
  unfold mayB
  rw [e, decide_eq_true h1, decide_eq_true h2, decide_eq_true h3, decide_eq_true h5]
  simp only [Bool.and_true, Bool.true_and]
set_option maxRecDepth 100000 in
set_option maxHeartbeats 4000000 in
theorem may_any (A A' : Option Addr) (c c' : Nat) (L : List (List Int)) (lost : List Int) (w : World) (hm : L.length ≤ 1000000) (hm' : lost.length ≤ 1000000) (hr : Kd.C (Kd.slice 5 (Kd.int .u8)) w A L.length L) (ho : Kd.C (Kd.int .i64) w A' lost.length lost) (hc : L.length ≤ c) (hc' : lost.length ≤ c') :
    Calls Try.prog 49 #[.slice A L.length c, .slice A' lost.length c'] w fun e w' => ∃ r : Int, e = .returned (.tuple #[.int .i64 r, .bool (mayB L lost)]) ∧ (mayB L lost = true → r = (lenR (kept L lost) : Nat)) ∧ Below w.heap.size w w' := by
  obtain ⟨i0, hi, hz0, hz1, hz2⟩ := info_parts info_row
  have HR := Lib.hid hr
  have HO := Lib.hid ho
  have HM := Lib.hid hm
  have HM' := Lib.hid hm'
  have HCc := Lib.hid hc
  have HCc' := Lib.hid hc'
  clear hr ho hc hc'
  refine (callsIn_wide (n := 0)).1 ?_
  refine callsIn_of_wp_marks Try.func49 rfl trivial ?_ rfl
  simp only [Try.ntmps49, List.size_toArray, List.length_cons, List.length_nil, Nat.reduceAdd, Nat.reduceSub, Array.replicate_succ, Array.replicate_zero, List.push_toArray, List.append_toArray, List.nil_append, List.cons_append]
  by_cases h4 : L.length < 4
  · have hf := Lib.hid (mayB_len (l := L) (lost := lost) (by omega))
    gi_wp2_with fail
    refine ⟨_, results_tmp2 rfl _ _ _, 0, ?_, fun h => ?_, Below.refl _ _⟩
    · rw [hf.out]; rfl
    · rw [hf.out] at h; cases h
  by_cases h16 : 16 < L.length
  · have hf := Lib.hid (mayB_len (l := L) (lost := lost) (by omega))
    gi_wp2_with fail
    refine ⟨_, results_tmp2 rfl _ _ _, 0, ?_, fun h => ?_, Below.refl _ _⟩
    · rw [hf.out]; rfl
    · rw [hf.out] at h; cases h
  by_cases h2 : 2 < lost.length
  · have hf := Lib.hid (mayB_len (l := L) (lost := lost) (by omega))
    gi_wp2_with fail
    refine ⟨_, results_tmp2 rfl _ _ _, 0, ?_, fun h => ?_, Below.refl _ _⟩
    · rw [hf.out]; rfl
    · rw [hf.out] at h; cases h
  gi_wp2_with fail
  gi_loopw [25] (fun i wr => ∃ j : Nat, i = .int .i64 j ∧ j ≤ lost.length ∧ Hid (∀ m (h : m < lost.length), m < j → 0 ≤ lost[m] ∧ lost[m] < L.length) ∧ Hid (lost.take j).Nodup ∧ ∃ m, wr = w.drewN m) (fun i _ => lost.length - (intOf i).toNat)
  case atStart => exact ⟨0, rfl, Nat.zero_le _, Lib.hid (fun m _ h => by omega), Lib.hid (by simp), 0, rfl⟩
  case round =>
    obtain ⟨j, rfl, hj, hg, hnd, m, rfl⟩ := hrel
    by_cases hjl : j < lost.length
    · obtain ⟨ad, e, hx⟩ := Kd.at_int HO.out (j : Int) (by omega) (by omega)
      subst e
      have hx2 : (w.drewN m).cell? (ad.add j) = some (.int .i64 lost[j]) := by
        have h4 : Go.Proofs.YtodbmgafejclmaaW.PrintWords.rd lost (j : Int) = lost[j] := by unfold Go.Proofs.YtodbmgafejclmaaW.PrintWords.rd; simp [hjl]
        rw [h4] at hx
        simpa using hx
      clear hx
      obtain ⟨x, hxx⟩ : ∃ x, x = lost[j] := ⟨_, rfl⟩
      rw [← hxx] at hx2
      have HX := Lib.hid hxx
      clear hxx
      by_cases hx0 : x < 0
      · have hf := Lib.hid (mayB_bad (l := L) hjl (.inl (HX.out ▸ hx0)))
        gi_wp2_with fail
        refine ⟨_, results_tmp2 rfl _ _ _, 0, ?_, fun h => ?_, pw_below_drewN (Below.refl _ _) m⟩
        · rw [hf.out]; rfl
        · rw [hf.out] at h; cases h
      by_cases hxl : (L.length : Int) ≤ x
      · have hf := Lib.hid (mayB_bad (l := L) hjl (.inr (.inl (HX.out ▸ hxl))))
        gi_wp2_with fail
        refine ⟨_, results_tmp2 rfl _ _ _, 0, ?_, fun h => ?_, pw_below_drewN (Below.refl _ _) m⟩
        · rw [hf.out]; rfl
        · rw [hf.out] at h; cases h
      have HT := Lib.hid (Kd.C_take (Kd.C_drewN HO.out m) hj)
      have hcon := fun W => contains_any (some ad) j c' (lost.take j) x W (by rw [List.length_take]; omega) (by rw [List.length_take]; omega)
      have HCon := Lib.hid hcon
      have hjc : j ≤ c' := Nat.le_trans hj HCc'.out
      have HT2 := Lib.hid (show Kd.C (Kd.int .i64) (w.drewN m) (some ad) j (lost.take j) from by have := HT.out; rwa [List.length_take, Nat.min_eq_left hj] at this)
      clear hcon HT
      by_cases hcn : (lost.take j).contains x = true
      · have hf := Lib.hid (mayB_bad (l := L) hjl (.inr (.inr (by rw [← HX.out]; exact hcn))))
        gi_wp2_with fail
        refine (callsIn_wide.2 (HCon.out _ HT2.out hjc)).mono ?_
        rintro e w1 ⟨rfl, q, rfl⟩
        rw [hcn]
        clear hcn
        gi_wp2_with fail
        refine ⟨_, results_tmp2 rfl _ _ _, 0, ?_, fun h => ?_, pw_below_drewN (Below.refl _ _) (m + q)⟩
        · rw [hf.out]; rfl
        · rw [hf.out] at h; cases h
      · have HN := Lib.hid hcn
        have HF := Lib.hid (Bool.eq_false_iff.2 hcn)
        clear hcn
        gi_wp2_with fail
        refine (callsIn_wide.2 (HCon.out _ HT2.out hjc)).mono ?_
        rintro e w1 ⟨rfl, q, rfl⟩
        rw [HF.out]
        gi_wp2_with fail
        go_roundw
        case rel =>
          refine ⟨j + 1, by simp, by omega, Lib.hid (fun i h hi => ?_), Lib.hid ((nodup_take_succ hjl).2 ⟨hnd.out, by rw [← HX.out]; exact HN.out⟩), m + q, by simp [World.drewN_drewN]⟩
          by_cases hij : i = j
          · subst hij
            rw [← HX.out]
            exact ⟨by omega, by omega⟩
          · exact hg.out i h (by omega)
        case measure => simp [intOf]; omega
    · obtain rfl : j = lost.length := by omega
      have hall := mayB_of (l := L) (lost := lost) (by omega) (by omega) (by omega) (fun q h => hg.out q h h) (by have := hnd.out; rwa [List.take_length] at this)
      have HALL := Lib.hid hall
      clear hall hg hnd
      gi_wp2_with fail
      refine (callsIn_wide.2 (kept_any A A' L.length lost.length c c' _)).mono ?_
      rintro e w1 ⟨rfl, rfl⟩
      gi_wp2_with fail
      obtain ⟨W0, hW0⟩ : ∃ W0, ((((w.drewN m).alloc (Obj.cells #[Value.slice none 0 0] 48)).alloc (Obj.cells #[Value.slice A L.length c] 48)).alloc (Obj.cells #[Value.slice A' lost.length c'] 23)) = W0 := ⟨_, rfl⟩
      rw [hW0]
      have z0 : W0.heap.size = w.heap.size + 3 := by rw [← hW0]; simp
      have bW : Below w.heap.size w W0 := by rw [← hW0]; exact (((pw_below_drewN (Below.refl _ _) m).alloc (by simp) _).alloc (by simp) _).alloc (by simp; omega) _
      have c0 : Boxed W0 w.heap.size 48 (.slice none 0 0) := by rw [← hW0]; exact ((Boxed.new (w.drewN m) _ _).alloc _).alloc _
      have fl : W0.cell? ⟨w.heap.size + 1, 0, none⟩ = some (.slice A L.length c) := by rw [← hW0]; clear hW0; go_simp
      have fo : W0.cell? ⟨w.heap.size + 1 + 1, 0, none⟩ = some (.slice A' lost.length c') := by rw [← hW0]; clear hW0; go_simp
      clear hW0
      have KH := Lib.hid (fun W (h : KpE (w.heap.size + 3) w.heap.size W0 W) k (hlt : k < w.heap.size) => ((h.block k (by omega) (by omega)).trans (bW.block k hlt) : W.heap[k]? = w.heap[k]?))
      have hI : OwnFrom W0.heap.size (fun (pre : List Nat) W => (∃ v, Boxed W w.heap.size 48 v ∧ W.ownsRow (w.heap.size + 3) 24 1 v pre.length (pre.map (hdr w A L)) ∧ True) ∧ Below w.heap.size w W) :=
        OwnFrom.and (Own.from (holdsRow_own (w.heap.size + 3) w.heap.size 48 24 1 (fun pre : List Nat => pre.length) (fun pre => pre.map (hdr w A L)) (fun pre v => True)) _) (ownFrom_below (Nat.le_refl _) (by omega))
      refine range_c (gf := 76) rfl (fun _ _ => rfl) (kept1_c (w.heap.size + 1) (w.heap.size + 1 + 1) (w.heap.size + 3) w.heap.size (by omega) (by omega) (by omega) (by omega) A A' L.length c c' (hdr w A L) lost HM.out HM'.out HCc'.out W0 (by omega) fl fo ?_ ?_)
        (fun h k => h.trans k) (fun W l o o' hl h _ _ => ⟨by simp, fun k h1 h2 => World.putObj_heap_other (by omega)⟩) (fun A B ⟨n, e⟩ => by subst e; exact ⟨Nat.le_refl _, fun _ _ h _ => h⟩) (Below.refl _ _) (fun _ => rfl)
        (fun pre W => (∃ v, Boxed W w.heap.size 48 v ∧ W.ownsRow (w.heap.size + 3) 24 1 v pre.length (pre.map (hdr w A L)) ∧ True) ∧ Below w.heap.size w W) (fun _ _ _ => False) hI (fun c pre A B row h => h.elim) ?_ (fun _ _ _ _ _ h => h) ⟨⟨_, c0, World.ownsRow_nil _ _ _ _, trivial⟩, bW⟩ ?_ ?_ ?_
      · intro i hi
        obtain ⟨ad, e, h1, _, _⟩ := hdr_at HR.out i hi
        exact ⟨ad, e, fun W h => (World.cell?_of_block (KH.out W h _ (World.block_lt_of_cell? w _ h1))).trans h1⟩
      · intro W h
        exact (Kd.heap_int _).C (KH.out W h) HO.out
      · rintro pre A1 B1 ⟨q, rfl⟩ ⟨⟨v, hv, hrow, _⟩, hB⟩
        exact ⟨⟨v, hv, hrow, trivial⟩, pw_below_drewN hB q⟩
      · rintro l pre x W hi2 hlen hsp hsz
        gi_wp2_with fail
        refine ⟨KeepsOthers.refl _, KpE.refl _, fun X => _, fun A B row h hg hr => hI _ _ _ _ h hg hr, hi2, ?_⟩
        rintro W₂ ⟨⟨v, hv, hrow, _⟩, hB⟩ h4
        have hs2 : w.heap.size + 3 ≤ W₂.heap.size := by omega
        have hrow0 := own_weaken hrow (show w.heap.size ≤ w.heap.size + 3 by omega)
        have Hs2 := Lib.hid hs2
        clear h4 hsz hs2
        have hc := hv.cell
        have hlx : pre.length < L.length := hlen
        obtain ⟨A3, n3, c3, e3⟩ : ∃ A3 n3 c3, hdr w A L x = .slice A3 n3 c3 := ⟨_, _, _, rfl⟩
        rw [e3]
        gi_wp2_with (gi_at_builtin; refine wpListIn_append_own _ rfl _ _ 48 rfl (w.heap.size + 3) 24 i0 (.slice none 0 0) 1 24 Try.underlying48 hi hz0 hz1 hz2 rfl (by decide) _ _ _ rfl (hrow.alloc _) ⟨W₂.heap.size, 0, none⟩ 1 1 [.slice A3 n3 c3] rfl rfl (cell_one_new _ _ _) (by simp [Value.oneCell']) (by unfold maxLen; omega) (by omega) (by have := Hs2.out; simp; omega) ?_; intro v' w1 hown' hgrow _; obtain ⟨g', cap', rfl⟩ := ownsRow_succ hown'; obtain ⟨hv1, hv2, hr2, hk2, hb2⟩ := hv.appended (by decide) hrow0 hB.size (Nat.le_refl _) (own_weaken hown' (show w.heap.size ≤ w.heap.size + 3 by omega)) hgrow; have hc1 := hv1.cell; have hf1 := hv1.frozen)
        exact ⟨hk2, kp_appended hrow hgrow Hs2.out _, ⟨_, hv2, by simpa [e3] using hown'.kept (grownBy_setCell' w1 w.heap.size _) (.inr (hv1.not_row (by decide) hown').symm), trivial⟩, hB.trans hb2⟩
      · rintro D ys W hDl rfl ⟨⟨v, hv, hrow, _⟩, hB⟩ hD
        have hc := hv.cell
        have hlL : L.length ≤ 16 := by omega
        obtain ⟨A2, c2, rfl, hA2, hC2⟩ := C_of_cells (L := L) (ok := fun i hi => by
          obtain ⟨_, _, _, g1, g2⟩ := hdr_at HR.out i (idx_lt hi)
          exact ⟨_, _, rfl, g1, Kd.C_below g2 hB⟩) hrow (by have := idx_len L.length lost; omega)
        rw [← kept_idx] at hA2 hC2 hc
        have HA2 := Lib.hid hA2
        have HC2 := Lib.hid hC2
        clear hA2 hC2
        have hkl : (kept L lost).length ≤ 1000000 := by rw [kept_idx, List.length_map]; have := idx_len L.length lost; omega
        obtain ⟨k, hk⟩ := (alike_ev (kept L lost) hkl).rounds
        have HK := Lib.hid hk
        clear hk
        by_cases hal : alikeR (kept L lost) = true
        · have HAL := Lib.hid hal
          rw [if_pos hal] at HK
          clear hal
          gi_wp2_with fail
          refine (callsIn_wide.2 (rs_alike.calls k A2 c2 (kept L lost) _ _ W HC2.out HA2.out HK.out)).mono ?_
          rintro e w1 ⟨rfl, ⟨q, rfl⟩⟩
          gi_wp2_with fail
          refine ⟨by simp, .inl ⟨_, _, rfl, run_takeDeferred hD, ?_⟩⟩
          refine ⟨_, results_tmp2 rfl _ _ _, _, ?_, fun _ => rfl, (pw_below_drewN hB q).trans (belowK_b (w := w) (Nat.le_refl _) (W.drewN q) D _ _ (by omega) hD rfl rfl)⟩
          rw [HALL.out, HAL.out]
          rfl
        · have HAL := Lib.hid (Bool.eq_false_iff.2 hal)
          rw [if_neg hal] at HK
          clear hal
          gi_wp2_with fail
          refine (callsIn_wide.2 (rs_alike.calls k A2 c2 (kept L lost) _ _ W HC2.out HA2.out HK.out)).mono ?_
          rintro e w1 ⟨rfl, ⟨q, rfl⟩⟩
          gi_wp2_with fail
          refine ⟨by simp, .inl ⟨_, _, rfl, run_takeDeferred hD, ?_⟩⟩
          refine ⟨_, results_tmp2 rfl _ _ _, 0, ?_, fun h => ?_, (pw_below_drewN hB q).trans (belowK_b (w := w) (Nat.le_refl _) (W.drewN q) D _ _ (by omega) hD rfl rfl)⟩
          · rw [HALL.out, HAL.out]
            rfl
          · rw [HALL.out, HAL.out] at h
            cases h
      · intro D c pre W _ _ h; exact h.elim
end Go.Proofs.Ytodbmgafejclmaa.Kp
namespace Go.Proofs.Ytodbmgafejclmaa.Ow
open Go.RowKit Go.Proofs.YtodbmgafejclmaaW.PrintWords
open Go.Proofs.Ytodbmgafejclmaa.PRq Go.Proofs.Ytodbmgafejclmaa.Fld Go.Proofs.Ytodbmgafejclmaa.Pl Go.Proofs.Ytodbmgafejclmaa.Ot Go.Proofs.Ytodbmgafejclmaa.Tw Go.Proofs.Ytodbmgafejclmaa.Kp
set_option linter.unusedSimpArgs false
set_option linter.unusedVariables false
theorem info_byte : (Try.prog.info? 5).map (fun i => (i.zero, i.size, i.bytes)) = some (some (.int .u8 0), 1, 1) := by kernel_rfl
def oR (L : List (List Int)) (lost : List Int) (n i : Nat) : List Int := if lost.contains (i : Int) then List.replicate n 0 else row L i
def rowsAt (L : List (List Int)) (lost : List Int) (n j : Nat) : List (List Int) := (List.range L.length).map fun i => if i < j then oR L lost n i else []
theorem rowsAt_len (L : List (List Int)) (lost : List Int) (n j : Nat) : (rowsAt L lost n j).length = L.length := by simp [rowsAt]
theorem rowsAt_all (L : List (List Int)) (lost : List Int) (n : Nat) : rowsAt L lost n L.length = ownR L lost n := by
  apply List.ext_getElem (by simp [rowsAt, ownR])
  intro i h1 h2
  rw [rowsAt_len] at h1
  simp [rowsAt, ownR, oR, h1, row]
theorem rowsAt_set (L : List (List Int)) (lost : List Int) (n j : Nat) (hj : j < L.length) : (rowsAt L lost n j).set j (oR L lost n j) = rowsAt L lost n (j + 1) := by
  apply List.ext_getElem (by simp [rowsAt])
  intro i h1 h2
  rw [rowsAt_len] at h2
  rw [List.getElem_set]
  split
  · rename_i e; subst e; simp [rowsAt]
  · rename_i e
    simp only [rowsAt, List.getElem_map, List.getElem_range]
    by_cases h : i < j
    · rw [if_pos h, if_pos (by omega)]
    · rw [if_neg h, if_neg (by omega)]
theorem rowsAt_zero (L : List (List Int)) (lost : List Int) (n : Nat) : rowsAt L lost n 0 = List.replicate L.length [] := by
  apply List.ext_getElem (by simp [rowsAt])
  intro i h1 h2
  simp [rowsAt]
theorem out_new {W : World} {base G n : Nat} (h : W.ownsRow base 24 1 (.slice (some ⟨G, 0, none⟩) n n) n (List.replicate n (.slice none 0 0))) (hn : n ≤ 1000000) : Out W base G (List.replicate n (.slice none 0 0)) (List.replicate n []) := by
  refine ⟨by rw [List.length_replicate]; exact h, fun i h r h1 h2 => ?_, fun i j h g k hij hi hj he => ?_, by rw [List.length_replicate]; exact hn⟩
  · rw [List.getElem?_replicate] at h1 h2
    split at h1
    · rename_i hl
      rw [if_pos hl] at h2
      cases h1
      cases h2
      exact own_nil _ _ _ _
    · cases h1
  · rw [List.getElem?_replicate] at hi
    split at hi
    · cases hi
      cases he
    · cases hi
set_option maxRecDepth 100000 in
set_option maxHeartbeats 2000000 in
theorem own_any (A A' : Option Addr) (c c' n : Nat) (L : List (List Int)) (lost : List Int) (w : World) (hm : L.length ≤ 1000000) (hm' : lost.length ≤ 1000000) (hn : n ≤ 1000000) (hr : Kd.C (Kd.slice 5 (Kd.int .u8)) w A L.length L) (ho : Kd.C (Kd.int .i64) w A' lost.length lost) (hc' : lost.length ≤ c')
    (hk : ∀ i : Nat, i < L.length → lost.contains (i : Int) = false → (row L i).length = n) :
    Calls Try.prog 50 #[.slice A L.length c, .slice A' lost.length c', .int .i64 (n : Int)] w fun e w' => ∃ G hs, e = .returned (.slice (some ⟨G, 0, none⟩) L.length L.length) ∧ Out w' w.heap.size G hs (ownR L lost n) ∧ Below w.heap.size w w' := by
  obtain ⟨i0, hi0, hz00, hz01, hz02⟩ := info_parts info_row
  obtain ⟨i1, hi1, hz10, hz11, hz12⟩ := info_parts info_byte
  have HR := Lib.hid hr
  have HO := Lib.hid ho
  have HK := Lib.hid hk
  clear hr ho hk
  go_enter Try.func50, Try.ntmps50
  go_wp2_with (at_make; refine wpList_make_full w rfl _ _ 48 rfl w.heap.size 24 i0 (.slice none 0 0) 1 Try.underlying48 hi0 hz00 hz01 .i64 .i64 _ _ L.length rfl rfl rfl rfl (by rw [hz02]; omega) (by unfold maxLen; omega) (Nat.le_refl _) ?_; intro w1 how1 hgr1)
  have O1 : Out w1 w.heap.size w.heap.size (List.replicate L.length (.slice none 0 0)) (rowsAt L lost n 0) := by
    rw [rowsAt_zero]
    refine out_new ?_ hm
    have := how1
    simpa [toList_madeCells_one, Value.cells] using this
  have B1 : Below w.heap.size w w1 := Below.grown (Below.refl _ _) hgr1 (Nat.le_refl _) (fun k e => by cases e)
  go_loopw [15] (fun i wr => ∃ (j : Nat) (hs : List Value), i = .int .i64 j ∧ j ≤ L.length ∧ Hid (Out wr w.heap.size w.heap.size hs (rowsAt L lost n j)) ∧ Hid (Below w.heap.size w wr)) (fun i _ => L.length - (intOf i).toNat)
  case atStart => exact ⟨0, _, rfl, Nat.zero_le _, Lib.hid O1, Lib.hid B1⟩
  case round =>
    clear O1 B1 how1 hgr1
    obtain ⟨j, hs, rfl, hj, HOut, HB⟩ := hrel
    by_cases hjl : j < L.length
    · obtain ⟨ad, e, hx, hxc, hxC⟩ := hdr_at HR.out j hjl
      subst e
      have hx2 : wr.cell? (ad.add j) = some (hdr w (some ad) L j) := pw_cell_below HB.out hx
      have HXC := Lib.hid hxC
      clear hx hxC
      have hxe : hdr w (some ad) L j = .slice (fA w (some ad) j) (row L j).length (fc w (some ad) j) := rfl
      rw [hxe] at hx2
      clear hxe
      generalize fA w (some ad) j = A3 at hx2 hxc HXC
      generalize fc w (some ad) j = c3 at hx2 hxc HXC
      have hfz := HOut.out.frozen j
      have hcl := HOut.out.len
      have hrl := rowsAt_len L lost n j
      obtain ⟨hz, hzi⟩ := HOut.out.get (i := j) (by rw [hrl]; exact hjl)
      have HZI := Lib.hid hzi
      clear hcl hrl hzi
      have hB := HB.out.size
      go_wp2_with (at_make; refine wpList_make_full wr rfl _ _ 24 rfl wr.heap.size 5 i1 (.int .u8 0) 1 Try.underlying24 hi1 hz10 hz11 .i64 .i64 _ _ n rfl rfl rfl rfl (by rw [hz12]; omega) (by unfold maxLen; omega) (Nat.le_refl _) ?_; intro w2 how2 hgr2; have O2 := Lib.hid (HOut.out.below (Below.grown (Below.refl _ _) hgr2 (Nat.le_refl _) (fun k e => by cases e))); have hz2 := O2.out.cell HZI.out; have hf2 := O2.out.frozen j)
      have hrl := rowsAt_len L lost n j
      have br2 : BR w2 w.heap.size (.slice (some ⟨wr.heap.size, 0, none⟩) n n) (List.replicate n 0) := by
        have h1 := own_weaken how2 hB
        unfold BR encs
        rw [List.length_replicate]
        simpa [toList_madeCells_one, Value.cells] using h1
      have O3 := Lib.hid (O2.out.set (i := j) (v := .slice (some ⟨wr.heap.size, 0, none⟩) n n) (by rw [hrl]; exact hjl) br2 (fun i g k hi hg h2 => by
        have h4 : i < hs.length := (List.getElem?_eq_some_iff.1 hi).1
        have h5 := HOut.out.len
        have h6 := own_lt (HOut.out.row i g _ hi (List.getElem?_eq_getElem (by omega))) k hg
        have h7 : wr.heap.size = k := by simpa [Value.ownBlock] using h2
        omega))
      have B3 := Lib.hid ((HB.out.grown hgr2 (by omega) (fun k e => by cases e)).setCell (p := ⟨w.heap.size, j, none⟩) (Nat.le_refl _) (.slice (some ⟨wr.heap.size, 0, none⟩) n n))
      have IA := Lib.hid (show (hs.set j (.slice (some ⟨wr.heap.size, 0, none⟩) n n))[j]? = some (.slice (some ⟨wr.heap.size, 0, none⟩) n n) from by
        have h5 := HOut.out.len
        rw [List.getElem?_set_self (by omega)])
      clear hz2 hf2 br2 hfz how2 hrl
      obtain ⟨w3, hw3⟩ : ∃ w3, w2.setCell ⟨w.heap.size, j, none⟩ (.slice (some ⟨wr.heap.size, 0, none⟩) n n) = w3 := ⟨_, rfl⟩
      rw [hw3] at O3 B3 ⊢
      clear hw3
      have hcon := Lib.hid (contains_any A' lost.length c' lost (j : Int) w3 rfl hm' (Kd.C_below HO.out B3.out) hc')
      by_cases hc : lost.contains (j : Int) = true
      · have HS := Lib.hid (show (rowsAt L lost n j).set j (List.replicate n 0) = rowsAt L lost n (j + 1) from by rw [← rowsAt_set L lost n j hjl, oR, if_pos hc])
        rw [HS.out] at O3
        refine hcon.out.mono ?_
        rintro e w4 ⟨rfl, q, rfl⟩
        rw [hc]
        clear hc
        go_wp2_with fail
        go_roundw
        case rel => exact ⟨j + 1, _, by simp, by omega, Lib.hid (O3.out.below (pw_below_drewN (Below.refl _ _) q)), Lib.hid (pw_below_drewN B3.out q)⟩
        case measure => simp [intOf]; omega
      · have hcf := Bool.eq_false_iff.2 hc
        have HS := Lib.hid (show (rowsAt L lost n j).set j (row L j) = rowsAt L lost n (j + 1) from by rw [← rowsAt_set L lost n j hjl, oR, if_neg hc])
        have hkl := HK.out j hjl hcf
        refine hcon.out.mono ?_
        rintro e w4 ⟨rfl, q, rfl⟩
        rw [hcf]
        clear hc hcf
        have O4 := Lib.hid (O3.out.below (pw_below_drewN (Below.refl _ _) q))
        have B4 := Lib.hid (pw_below_drewN B3.out q)
        have ca := O4.out.cell IA.out
        clear O3 B3
        have brow := Lib.hid (O4.out.row j _ (List.replicate n 0) IA.out (by rw [List.getElem?_set_self (by rw [rowsAt_len]; exact hjl)]))
        have HC4 := Lib.hid (Kd.C_below HXC.out B4.out)
        have HRO := Lib.hid (brow.out.R (ok := fun _ => True) (fun _ _ => trivial))
        have HC5 := Lib.hid (show Kd.C (Kd.int .u8) (w3.drewN q) A3 n (row L j) from by have := HC4.out; rwa [hkl] at this)
        have HIN : (Try.prog.info? 5).map (·.size) = some 1 := by kernel_rfl
        go_wp2_with ((with_reducible show wpList _ _ _ _ _ _); refine Kd.R_copy (o := ⟨some 34, _, _, _, _, _⟩) (enc := Value.int .u8) (h1 := fun _ => rfl) (0 : Int) (w0 := w) w.heap.size rfl (.tmp 32) (.tmp 33) 24 24 5 rfl Try.underlying24 HIN (.slice (some ⟨wr.heap.size, 0, none⟩) n n) (List.replicate n 0) (row L j) A3 n c3 (fun _ => True) rfl rfl HRO.out HC5.out B4.out B4.out.size ?_; intro w5 h51 h52 h53)
        have hrow5 : BR w5 w.heap.size (.slice (some ⟨wr.heap.size, 0, none⟩) n n) (row L j) := by
          have h6 := BR.of h51
          rw [List.length_replicate, Nat.min_self, List.drop_eq_nil_of_le (by rw [List.length_replicate]; exact Nat.le_refl _), List.append_nil, List.take_of_length_le (by rw [hkl]; exact Nat.le_refl _)] at h6
          exact h6
        have O5 := Lib.hid (O4.out.put IA.out (Kept.of_grown h53 (Kept.refl _ _) (fun k e => .inl e.symm)) hrow5)
        clear h51 hrow5
        rw [List.set_set, HS.out] at O5
        go_wp2_with fail
        go_roundw
        case rel => exact ⟨j + 1, _, by simp, by omega, O5, Lib.hid h52⟩
        case measure => simp [intOf]; omega
    · have e : j = L.length := by omega
      subst e
      go_wp2_with fail
      go_ret
      rw [rowsAt_all] at HOut
      exact ⟨_, _, rfl, HOut.out, HB.out⟩
end Go.Proofs.Ytodbmgafejclmaa.Ow
namespace Go.Proofs.Ytodbmgafejclmaa.PRt
open Go.RowKit Go.Proofs.YtodbmgafejclmaaW.PrintWords Go.Proofs.YtodbmgafejclmaaW.PrintLast Go.Proofs.YtodbmgafejclmaaW.PrintMore
attribute [local go_sem] max2_int min2_int max_two min_two max_three min_three max_four min_four -- for this text's walks alone
set_option linter.unusedVariables false
set_option linter.unusedSimpArgs false
def errW : Option Int → Value
  | none => .nilIface
  | some c => .iface 0 (.int .i64 c)
theorem errW_none : errW none = .nilIface := rfl
theorem errW_some (c : Int) : errW (some c) = .iface 0 (.int .i64 c) := rfl
end Go.Proofs.Ytodbmgafejclmaa.PRt
namespace Go.Proofs.Ytodbmgafejclmaa.PRt
open Go.RowKit Go.Proofs.YtodbmgafejclmaaW.PrintWords Go.Proofs.YtodbmgafejclmaaW.PrintLast Go.Proofs.YtodbmgafejclmaaW.PrintMore
attribute [local go_sem] max2_int min2_int max_two min_two max_three min_three max_four min_four -- for this text's walks alone
set_option linter.unusedVariables false
set_option linter.unusedSimpArgs false
def cmp_isNaN_int.f (a0 : Int) : Option (Bool) := some (a0 != a0)
set_option maxHeartbeats 8000000 in
set_option maxRecDepth 100000 in
theorem cmp_isNaN_int.calls (a0 : Int) (r : Bool) (w : World) (h : cmp_isNaN_int.f a0 = some r) :
    Calls Try.prog 100 #[.int .i64 a0] w fun e w' => e = .returned (.bool r) ∧ Drawn0 w w' := by
  have H : (some (a0 != a0)) = some r := h
  clear h
  obtain rfl := Option.some.inj H
  go_enter Try.func100, Try.ntmps100
  go_wp2
  go_ret
  exact ⟨by first | rfl | (simp; done) | (simp [*]; done), by repeat (first | exact Drawn0.refl _ | apply Drawn0.step)⟩
def cmp_Less_int.f (a0 : Int) (a1 : Int) : Option (Bool) := (cmp_isNaN_int.f a0).bind fun t101 => (if t101 = true then ((cmp_isNaN_int.f a1).bind fun t102 => (if t102 = true then (some (decide (a0 < a1))) else (some true))) else (some (decide (a0 < a1))))
set_option maxHeartbeats 8000000 in
set_option maxRecDepth 100000 in
theorem cmp_Less_int.calls (a0 : Int) (a1 : Int) (r : Bool) (w : World) (h : cmp_Less_int.f a0 a1 = some r) :
    Calls Try.prog 88 #[.int .i64 a0, .int .i64 a1] w fun e w' => e = .returned (.bool r) ∧ Drawn0 w w' := by
  have H : ((cmp_isNaN_int.f a0).bind fun t101 => (if t101 = true then ((cmp_isNaN_int.f a1).bind fun t102 => (if t102 = true then (some (decide (a0 < a1))) else (some true))) else (some (decide (a0 < a1))))) = some r := h
  clear h
  replace H := Option.bind_eq_some_iff.mp H
  obtain ⟨t101, A30, H⟩ := H
  replace H : (if t101 = true then ((cmp_isNaN_int.f a1).bind fun t102 => (if t102 = true then (some (decide (a0 < a1))) else (some true))) else (some (decide (a0 < a1)))) = some r := H
  have A3 := Aside0.mk A30
  clear A30
  by_cases c4 : t101 = true
  · subst c4
    have H1 : ((cmp_isNaN_int.f a1).bind fun t102 => (if t102 = true then (some (decide (a0 < a1))) else (some true))) = some r := by rw [if_pos rfl] at H; exact H
    clear H
    have H := H1
    clear H1
    replace H := Option.bind_eq_some_iff.mp H
    obtain ⟨t102, A50, H⟩ := H
    replace H : (if t102 = true then (some (decide (a0 < a1))) else (some true)) = some r := H
    have A5 := Aside0.mk A50
    clear A50
    by_cases c6 : t102 = true
    · subst c6
      have H1 : (some (decide (a0 < a1))) = some r := by rw [if_pos rfl] at H; exact H
      clear H
      have H := H1
      clear H1
      obtain rfl := Option.some.inj H
      go_enter Try.func88, Try.ntmps88
      go_wp2_with (first | ((with_reducible refine gate_callee (f := 100) rfl ?_); refine goesL_ (some 6) rfl rfl Try.func100 (by kernel_rfl) rfl #[.int .i64 a0] rfl (by (try simp only [List.map_toArray, List.map_cons, List.map_nil]); first | done | rfl | (simp only [List.length_drop, List.length_take]; rfl)) ?_; (with_reducible refine (cmp_isNaN_int.calls a0 true _ A3.out).mono ?_); rintro e w' ⟨rfl, ⟨nd, rfl⟩⟩; refine ⟨_, rfl, ?_⟩) | (go_at_call 100; (with_reducible refine (cmp_isNaN_int.calls a1 true _ A5.out).mono ?_); rintro e w' ⟨rfl, ⟨nd, rfl⟩⟩))
      go_ret
      exact ⟨by first | rfl | (simp; done) | (simp [*]; done), by repeat (first | exact Drawn0.refl _ | apply Drawn0.step)⟩
    · replace c6 := Bool.eq_false_iff.mpr c6
      subst c6
      have H1 : (some true) = some r := by rw [if_neg (show ¬ (false = true) by decide)] at H; exact H
      clear H
      have H := H1
      clear H1
      obtain rfl := Option.some.inj H
      go_enter Try.func88, Try.ntmps88
      go_wp2_with (first | ((with_reducible refine gate_callee (f := 100) rfl ?_); refine goesL_ (some 6) rfl rfl Try.func100 (by kernel_rfl) rfl #[.int .i64 a0] rfl (by (try simp only [List.map_toArray, List.map_cons, List.map_nil]); first | done | rfl | (simp only [List.length_drop, List.length_take]; rfl)) ?_; (with_reducible refine (cmp_isNaN_int.calls a0 true _ A3.out).mono ?_); rintro e w' ⟨rfl, ⟨nd, rfl⟩⟩; refine ⟨_, rfl, ?_⟩) | (go_at_call 100; (with_reducible refine (cmp_isNaN_int.calls a1 false _ A5.out).mono ?_); rintro e w' ⟨rfl, ⟨nd, rfl⟩⟩))
      go_ret
      exact ⟨by first | rfl | (simp; done) | (simp [*]; done), by repeat (first | exact Drawn0.refl _ | apply Drawn0.step)⟩
  · replace c4 := Bool.eq_false_iff.mpr c4
    subst c4
    have H1 : (some (decide (a0 < a1))) = some r := by rw [if_neg (show ¬ (false = true) by decide)] at H; exact H
    clear H
    have H := H1
    clear H1
    obtain rfl := Option.some.inj H
    go_enter Try.func88, Try.ntmps88
    go_wp2_with (first | ((with_reducible refine gate_callee (f := 100) rfl ?_); refine goesL_ (some 6) rfl rfl Try.func100 (by kernel_rfl) rfl #[.int .i64 a0] rfl (by (try simp only [List.map_toArray, List.map_cons, List.map_nil]); first | done | rfl | (simp only [List.length_drop, List.length_take]; rfl)) ?_; (with_reducible refine (cmp_isNaN_int.calls a0 false _ A3.out).mono ?_); rintro e w' ⟨rfl, ⟨nd, rfl⟩⟩; refine ⟨_, rfl, ?_⟩))
    go_ret
    exact ⟨by first | rfl | (simp; done) | (simp [*]; done), by repeat (first | exact Drawn0.refl _ | apply Drawn0.step)⟩
mutual
def slices_insertionSortOrdered_int.l0 : Nat → List Int → Int → Int → Int → Option (List Int)
  | 0, _, _, _, _ => none
  | k + 1, x0, x1, x2, x6 => if x6 < x2 then (slices_insertionSortOrdered_int.l1 k x0 x1 x2 x6 x6) else (some x0)
def slices_insertionSortOrdered_int.l1 : Nat → List Int → Int → Int → Int → Int → Option (List Int)
  | 0, _, _, _, _, _ => none
  | k + 1, x0, x1, x2, x6, x7 => if x7 > x1 then (if 0 ≤ x7 then (if x7 < (x0.length : Int) then (if 0 ≤ (wrap64 (x7 - 1)) then (if (wrap64 (x7 - 1)) < (x0.length : Int) then ((cmp_Less_int.f (rd x0 x7) (rd x0 (wrap64 (x7 - 1)))).bind fun t105 => (if t105 = true then (slices_insertionSortOrdered_int.l1 k ((x0.set (x7 : Int).toNat (rd x0 (wrap64 (x7 - 1)))).set ((wrap64 (x7 - 1)) : Int).toNat (rd x0 x7)) x1 x2 x6 (wrap64 (x7 - 1))) else (slices_insertionSortOrdered_int.l0 k x0 x1 x2 (wrap64 (x6 + 1))))) else (none)) else (none)) else (none)) else (none)) else (slices_insertionSortOrdered_int.l0 k x0 x1 x2 (wrap64 (x6 + 1)))
end
def slices_insertionSortOrdered_int.f (k : Nat) (l0 : List Int) (a1 : Int) (a2 : Int) : Option (List Int) := slices_insertionSortOrdered_int.l0 k l0 a1 a2 (wrap64 (a1 + 1))
def slices_insertionSortOrdered_int.T4 : Bool × List (List Nat × List Nat) := (true, [([], []), ([], []), ([0, 1], [0, 1]), ([2], [2]), ([3], [3]), ([3], [3]), ([4, 5, 3], [3, 4, 5]), ([6, 3], [3, 6]), ([3], [3]), ([3], [3]), ([9, 3], [3, 9]), ([8, 10, 3], [3, 8, 10]), ([11, 3], [3, 11]), ([7, 12, 3, 3], [3, 7, 12]), ([3, 13], [3, 13])])
def slices_insertionSortOrdered_int.B4 : List Nat := [0, 0, 3, 7, 15, 15, 63, 127, 15, 15, 527, 1807, 3855, 8191, 16383]
theorem slices_insertionSortOrdered_int.tab4 : rtab .any (opsOf Try.f82 4) = slices_insertionSortOrdered_int.T4 := by kernel_rfl
theorem slices_insertionSortOrdered_int.bits4 : waitsOk slices_insertionSortOrdered_int.T4.2 slices_insertionSortOrdered_int.B4 = true := by kernel_rfl
def slices_insertionSortOrdered_int.T6 : Bool × List (List Nat × List Nat) := (true, [([], []), ([], []), ([], []), ([], []), ([3], [3]), ([], []), ([], []), ([6], [6]), ([5, 7], [5, 7]), ([8], [8]), ([], []), ([], []), ([10, 11], [10, 11]), ([12], [12]), ([0, 1, 0, 1, 5, 6, 7, 8, 9, 13], [0, 1]), ([14, 9, 0, 1, 5, 6, 7, 8, 9, 13], [9, 14]), ([2, 4, 0, 1, 2, 3, 4, 5, 6, 7, 8, 9, 10, 11, 12, 13, 14, 15], [2, 4]), ([16, 13, 15, 0, 1, 2, 3, 4, 5, 6, 7, 8, 9, 10, 11, 12, 13, 14, 15], [13, 16])])
def slices_insertionSortOrdered_int.B6 : List Nat := [0, 0, 0, 0, 8, 0, 0, 64, 224, 480, 0, 0, 3072, 7168, 16355, 32739, 65535, 131071]
theorem slices_insertionSortOrdered_int.tab6 : rtab .any (opsOf Try.f82 6) = slices_insertionSortOrdered_int.T6 := by kernel_rfl
theorem slices_insertionSortOrdered_int.bits6 : waitsOk slices_insertionSortOrdered_int.T6.2 slices_insertionSortOrdered_int.B6 = true := by kernel_rfl
set_option maxHeartbeats 8000000 in
set_option maxRecDepth 100000 in
theorem slices_insertionSortOrdered_int.calls (k : Nat) (P0_ : Nat → Prop) (u9000_ : Value) (l0 : List Int) (a1 : Int) (a2 : Int) (r : List Int) (w0 w : World) (hB : Below w0.heap.size w0 w) (ho0 : Kd.R (Kd.int .i64) 3 w w0.heap.size P0_ u9000_ l0) (h : slices_insertionSortOrdered_int.f k l0 a1 a2 = some r) :
    Calls Try.prog 82 #[u9000_, .int .i64 a1, .int .i64 a2] w fun e w' => e = .returned (.tuple #[]) ∧ Kd.R (Kd.int .i64) 3 w' w0.heap.size (fun k_ => (P0_ k_ ∨ w.heap.size ≤ k_)) u9000_ r ∧ Below w0.heap.size w0 w' ∧ Kept w w' (fun k_ => P0_ k_) := by
  have HO0 := Aside0.mk (show Kd.R (Kd.int .i64) 3 w w0.heap.size (fun k_ => (P0_ k_ ∨ w.heap.size ≤ k_)) u9000_ l0 from Kd.R_mono ho0 (fun k_ hk => (.inl hk)))
  have HK := Aside0.mk (Kept.refl w (fun k_ => P0_ k_))
  have HW0 := Aside0.mk hB.size
  have HB := Aside0.mk hB
  clear hB
  have H : (slices_insertionSortOrdered_int.l0 k l0 a1 a2 (wrap64 (a1 + 1))) = some r := h
  clear h
  have H' := Aside0.mk H
  clear H
  go_enter Try.func82, Try.ntmps82
  go_wp2
  go_loopg [6] k (fun kq v6 w' => ∃ (x0_1 : List Int) (x6_1 : Int), v6 = .int .i64 x6_1 ∧ Aside0 (slices_insertionSortOrdered_int.l0 kq x0_1 a1 a2 x6_1 = some r) ∧ Aside0 (kq ≤ k) ∧ Aside0 (Kd.R (Kd.int .i64) 3 w' w0.heap.size (fun k_ => (P0_ k_ ∨ w.heap.size ≤ k_)) u9000_ x0_1) ∧ Aside0 (Kept w w' (fun k_ => P0_ k_)) ∧ Aside0 (Below w0.heap.size w0 w'))
  case atStart => exact ⟨(l0), (wrap64 (a1 + 1)), (by first | rfl | (simp; done) | (simp [*]; done)), H', ⟨Nat.le_refl _⟩, ⟨by (with_reducible repeat (first | apply Kd.R_alloc | apply Kd.R_drewN | apply Kd.R_drew)); exact HO0.out⟩, ⟨by repeat (first | (with_reducible first | exact HK.out | apply Kept.alloc | apply Kept.drewN | apply Kept.drew) | exact HK.out)⟩, ⟨by repeat (first | (with_reducible first | exact HB.out | apply below_alloc | apply pw_below_drewN | apply below_drew1) | exact HB.out)⟩⟩
  case round =>
    clear H'
    try clear p2
    obtain ⟨x0_1, x6_1, rfl, HA, HK1, HO_0, HK, HB⟩ := hrel
    cases gk with
    | zero => exact absurd HA.out (by simp [slices_insertionSortOrdered_int.l0])
    | succ k1 =>
      have H := HA.out
      clear HA
      simp only [slices_insertionSortOrdered_int.l0] at H
      by_cases c4 : x6_1 < a2
      · rw [if_pos c4] at H
        have c4b0 : decide (x6_1 < a2) = true := decide_eq_true c4
        clear c4
        have H' := Aside0.mk H
        clear H
        go_wp2
        go_loopg [7] k1 (fun kq v7 w' => ∃ (x0_2 : List Int) (x7_2 : Int), v7 = .int .i64 x7_2 ∧ Aside0 (slices_insertionSortOrdered_int.l1 kq x0_2 a1 a2 x6_1 x7_2 = some r) ∧ Aside0 (kq ≤ k1) ∧ Aside0 (Kd.R (Kd.int .i64) 3 w' w0.heap.size (fun k_ => (P0_ k_ ∨ w.heap.size ≤ k_)) u9000_ x0_2) ∧ Aside0 (Kept w w' (fun k_ => P0_ k_)) ∧ Aside0 (Below w0.heap.size w0 w'))
        case atStart => exact ⟨(x0_1), (x6_1), (by first | rfl | (simp; done) | (simp [*]; done)), H', ⟨Nat.le_refl _⟩, ⟨by (with_reducible repeat (first | apply Kd.R_alloc | apply Kd.R_drewN | apply Kd.R_drew)); exact HO_0.out⟩, ⟨by repeat (first | (with_reducible first | exact HK.out | apply Kept.alloc | apply Kept.drewN | apply Kept.drew) | exact HK.out)⟩, ⟨by repeat (first | (with_reducible first | exact HB.out | apply below_alloc | apply pw_below_drewN | apply below_drew1) | exact HB.out)⟩⟩
        case round =>
          clear H'
          try clear p2
          try clear c4
          try clear c4b0
          try clear p2
          obtain ⟨x0_2, x7_2, rfl, HA, HK2, HO_0, HK, HB⟩ := hrel
          cases gk with
          | zero => exact absurd HA.out (by simp [slices_insertionSortOrdered_int.l1])
          | succ k2 =>
            have H := HA.out
            clear HA
            simp only [slices_insertionSortOrdered_int.l1] at H
            by_cases c5 : x7_2 > a1
            · rw [if_pos c5] at H
              have c5b0 : decide (a1 < x7_2) = true := decide_eq_true c5
              clear c5
              by_cases c6 : 0 ≤ x7_2
              · rw [if_pos c6] at H
                have c6b0 : decide (0 ≤ x7_2) = true := decide_eq_true c6
                clear c6
                by_cases c7 : x7_2 < (x0_2.length : Int)
                · rw [if_pos c7] at H
                  have c7b0 : decide (x7_2 < (x0_2.length : Int)) = true := decide_eq_true c7
                  clear c7
                  obtain ⟨ji8, hji8⟩ : ∃ j_ : Int, (wrap64 (x7_2 - 1)) = j_ := ⟨_, rfl⟩
                  replace H : (if 0 ≤ (ji8) then (if (ji8) < (x0_2.length : Int) then ((cmp_Less_int.f (rd x0_2 x7_2) (rd x0_2 (ji8))).bind fun t105 => (if t105 = true then (slices_insertionSortOrdered_int.l1 k2 ((x0_2.set (x7_2 : Int).toNat (rd x0_2 (ji8))).set ((ji8) : Int).toNat (rd x0_2 x7_2)) a1 a2 x6_1 ji8) else (slices_insertionSortOrdered_int.l0 k2 x0_2 a1 a2 (wrap64 (x6_1 + 1))))) else (none)) else (none)) = some r := by first | (rw [hji8] at H; exact H) | (simp only [hji8] at H ⊢; exact H)
                  have hji8w : (IntKind.i64.wrap (x7_2 - 1)) = ji8 := (i64_w _).trans hji8
                  by_cases c9 : 0 ≤ (ji8)
                  · rw [if_pos c9] at H
                    have c9b0 : decide (0 ≤ (ji8)) = true := decide_eq_true c9
                    clear c9
                    by_cases c10 : (ji8) < (x0_2.length : Int)
                    · rw [if_pos c10] at H
                      have c10b0 : decide ((ji8) < (x0_2.length : Int)) = true := decide_eq_true c10
                      clear c10
                      replace H := Option.bind_eq_some_iff.mp H
                      obtain ⟨t105, A110, H⟩ := H
                      replace H : (if t105 = true then (slices_insertionSortOrdered_int.l1 k2 ((x0_2.set (x7_2 : Int).toNat (rd x0_2 (ji8))).set ((ji8) : Int).toNat (rd x0_2 x7_2)) a1 a2 x6_1 ji8) else (slices_insertionSortOrdered_int.l0 k2 x0_2 a1 a2 (wrap64 (x6_1 + 1)))) = some r := H
                      have A11 := Aside0.mk A110
                      clear A110
                      by_cases c12 : t105 = true
                      · subst c12
                        have H1 : (slices_insertionSortOrdered_int.l1 k2 ((x0_2.set (x7_2 : Int).toNat (rd x0_2 (ji8))).set ((ji8) : Int).toNat (rd x0_2 x7_2)) a1 a2 x6_1 ji8) = some r := by rw [if_pos rfl] at H; exact H
                        clear H
                        have H := H1
                        clear H1
                        obtain ⟨y108, hy108⟩ : ∃ y_ : List Int, y_ = (x0_2.set (x7_2 : Int).toNat (rd x0_2 (ji8))) := ⟨_, rfl⟩
                        replace H : (slices_insertionSortOrdered_int.l1 k2 (y108.set ((ji8) : Int).toNat (rd x0_2 x7_2)) a1 a2 x6_1 ji8) = some r := by first | (rw [hy108]; with_reducible exact H) | (have H2_ := (Option.bind_some _ _).symm.trans H; rw [hy108]; with_reducible exact H2_) | (have H2_ := (Option.bind_some _ _).symm.trans H; with_reducible exact H2_) | with_reducible exact H | (rw [hy108]; exact H) | exact H
                        have Ny108 := Aside0.mk hy108
                        clear hy108
                        obtain ⟨y109, hy109⟩ : ∃ y_ : List Int, y_ = (y108.set ((ji8) : Int).toNat (rd x0_2 x7_2)) := ⟨_, rfl⟩
                        replace H : (slices_insertionSortOrdered_int.l1 k2 y109 a1 a2 x6_1 ji8) = some r := by first | (rw [hy109]; with_reducible exact H) | (have H2_ := (Option.bind_some _ _).symm.trans H; rw [hy109]; with_reducible exact H2_) | (have H2_ := (Option.bind_some _ _).symm.trans H; with_reducible exact H2_) | with_reducible exact H | (rw [hy109]; exact H) | exact H
                        have Ny109 := Aside0.mk hy109
                        clear hy109
                        have H' := Aside0.mk H
                        clear H
                        try go_wp2
                        have n0_ := Aside0.mk (Kd.R_drew HO_0.out)
                        have n1_ := Aside0.mk (Kept.drew HK.out)
                        have n2_ := Aside0.mk (below_drew1 HB.out)
                        clear HO_0
                        clear HK
                        clear HB
                        have HO_0 := n0_
                        have HK := n1_
                        have HB := n2_
                        clear n0_ n1_ n2_
                        obtain ⟨Ao16, co16, eo16⟩ := Kd.R_slice HO_0.out
                        (first | subst eo16 | (injection eo16 with f1_ f2_ f3_; have f4_ := f1_.symm; have f5_ := f3_.symm; clear f1_ f2_ f3_; subst f4_; subst f5_))
                        have p103 : 0 ≤ (x7_2 : Int) := of_decide_eq_true (by first | (with_reducible assumption) | assumption)
                        have q103 : x7_2 < (x0_2.length : Int) := of_decide_eq_true (by first | (with_reducible assumption) | assumption)
                        obtain ⟨ad103, e103, hx103_0⟩ := Kd.at_int (Kd.R_reads' HO_0.out).2.2 x7_2 p103 q103
                        cases e103
                        replace p103 := eq_true p103
                        replace q103 := eq_true q103
                        have p104 : 0 ≤ ((ji8) : Int) := of_decide_eq_true (by first | (with_reducible assumption) | assumption)
                        have q104 : (ji8) < (x0_2.length : Int) := of_decide_eq_true (by first | (with_reducible assumption) | assumption)
                        obtain ⟨ad104, e104, hx104_0⟩ := Kd.at_int (Kd.R_reads' HO_0.out).2.2 (ji8) p104 q104
                        obtain rfl : ad103 = ad104 := (by injection e104)
                        replace p104 := eq_true p104
                        replace q104 := eq_true q104
                        refine start_ (n := 15) (S := fun w' => w'.cell? (ad103.add (x7_2).toNat) = some (.int .i64 (rd x0_2 x7_2)) ∧ w'.cell? (ad103.add ((ji8)).toNat) = some (.int .i64 (rd x0_2 (ji8)))) (ds := []) #[false, false, false, false, false, false, false, false, false, false, false, false, false, false, false] (by kernel_rfl) rfl rfl ⟨hx103_0, hx104_0⟩ (fun hHeld => ?_); refine with_tabW slices_insertionSortOrdered_int.tab4 slices_insertionSortOrdered_int.bits4 (fun HT_ HW_ => ?_)
                        generalize wr.drew = w15 at HO_0 HK HB hx103_0 hx104_0 hHeld ⊢
                        refine pure_ (i := 0) (N := some 16) (v := ?_) (a' := ?_) #[true, false, false, false, false, false, false, false, false, false, false, false, false, false, false] rfl rfl (any_of HT_.out (by kernel_rfl)) (fun _ _ _ h => h) (Or.inl ⟨by rfl, ?_⟩) ?_ ?_
                        rotate_left
                        · intro w'
                          go_simp
                          with_reducible rfl
                        rotate_left
                        · simp only [Act.put, List.setIfInBounds_toArray, List.set_cons_zero, List.set_cons_succ, i64_w, i32_w]
                          rfl
                        refine pure_ (i := 1) (N := some 17) (v := ?_) (a' := ?_) #[true, true, false, false, false, false, false, false, false, false, false, false, false, false, false] rfl rfl (any_of HT_.out (by kernel_rfl)) (fun _ _ _ h => h) (Or.inl ⟨by rfl, ?_⟩) ?_ ?_
                        rotate_left
                        · intro w'
                          go_simp
                          with_reducible rfl
                        rotate_left
                        · simp only [Act.put, List.setIfInBounds_toArray, List.set_cons_zero, List.set_cons_succ, i64_w, i32_w]
                          rfl
                        refine pure_ (i := 2) (N := some 18) (v := ?_) (a' := ?_) #[true, true, true, false, false, false, false, false, false, false, false, false, false, false, false] rfl rfl (any_of HT_.out (by kernel_rfl)) (fun _ _ _ h => h) (Or.inl ⟨by rfl, ?_⟩) ?_ ?_
                        rotate_left
                        · intro w'
                          go_simp
                          with_reducible rfl
                        rotate_left
                        · simp only [Act.put, List.setIfInBounds_toArray, List.set_cons_zero, List.set_cons_succ, i64_w, i32_w]
                          rfl
                        refine pure_ (i := 3) (N := some 19) (v := ?_) (a' := ?_) #[true, true, true, true, false, false, false, false, false, false, false, false, false, false, false] rfl rfl (any_of HT_.out (by kernel_rfl)) (fun _ _ _ h => h) (Or.inl ⟨by rfl, ?_⟩) ?_ ?_
                        rotate_left
                        · intro w'
                          go_simp
                          with_reducible rfl
                        rotate_left
                        · simp only [Act.put, List.setIfInBounds_toArray, List.set_cons_zero, List.set_cons_succ, i64_w, i32_w]
                          rfl
                        refine pure_ (i := 4) (N := some 20) (v := ?_) (a' := ?_) #[true, true, true, true, true, false, false, false, false, false, false, false, false, false, false] rfl rfl (any_of HT_.out (by kernel_rfl)) (fun _ _ _ h => h) (Or.inl ⟨by rfl, ?_⟩) ?_ ?_
                        rotate_left
                        · intro w'
                          go_simp
                          with_reducible rfl
                        rotate_left
                        · simp only [Act.put, List.setIfInBounds_toArray, List.set_cons_zero, List.set_cons_succ, i64_w, i32_w]
                          rfl
                        refine pure_ (i := 5) (N := some 21) (v := ?_) (a' := ?_) #[true, true, true, true, true, true, false, false, false, false, false, false, false, false, false] rfl rfl (any_of HT_.out (by kernel_rfl)) (fun _ _ _ h => h) (Or.inl ⟨by rfl, ?_⟩) ?_ ?_
                        rotate_left
                        · intro w'
                          go_simp
                          with_reducible rfl
                        rotate_left
                        · simp only [Act.put, List.setIfInBounds_toArray, List.set_cons_zero, List.set_cons_succ, i64_w, i32_w]
                          rfl
                        refine pure_ (i := 6) (N := some 22) (v := ?_) (a' := ?_) #[true, true, true, true, true, true, true, false, false, false, false, false, false, false, false] rfl rfl (any_of HT_.out (by kernel_rfl)) (fun _ _ _ h => h) (Or.inl ⟨by rfl, ?_⟩) ?_ ?_
                        rotate_left
                        · intro w'
                          go_simp
                          with_reducible rfl
                        rotate_left
                        · simp only [Act.put, List.setIfInBounds_toArray, List.set_cons_zero, List.set_cons_succ, i64_w, i32_w]
                          rfl
                        refine pure_ (i := 8) (N := some 24) (v := ?_) (a' := ?_) #[true, true, true, true, true, true, true, false, true, false, false, false, false, false, false] rfl rfl (any_of HT_.out (by kernel_rfl)) (fun _ _ _ h => h) (Or.inl ⟨by rfl, ?_⟩) ?_ ?_
                        rotate_left
                        · intro w'
                          go_simp
                          with_reducible rfl
                        rotate_left
                        · simp only [Act.put, List.setIfInBounds_toArray, List.set_cons_zero, List.set_cons_succ, i64_w, i32_w]
                          rfl
                        refine pure_ (i := 9) (N := some 25) (v := ?_) (a' := ?_) #[true, true, true, true, true, true, true, false, true, true, false, false, false, false, false] rfl rfl (any_of HT_.out (by kernel_rfl)) (fun _ _ _ h => h) (Or.inl ⟨by rfl, ?_⟩) ?_ ?_
                        rotate_left
                        · intro w'
                          go_simp
                          with_reducible rfl
                        rotate_left
                        · simp only [Act.put, List.setIfInBounds_toArray, List.set_cons_zero, List.set_cons_succ, i64_w, i32_w]
                          rfl
                        refine pure_ (i := 10) (N := some 26) (v := ?_) (a' := ?_) #[true, true, true, true, true, true, true, false, true, true, true, false, false, false, false] rfl rfl (any_of HT_.out (by kernel_rfl)) (fun _ _ _ h => h) (Or.inl ⟨by rfl, ?_⟩) ?_ ?_
                        rotate_left
                        · intro w'
                          go_simp
                          with_reducible rfl
                        rotate_left
                        · simp only [Act.put, List.setIfInBounds_toArray, List.set_cons_zero, List.set_cons_succ, i64_w, i32_w]
                          rfl
                        refine pure_ (i := 11) (N := some 27) (v := ?_) (a' := ?_) #[true, true, true, true, true, true, true, false, true, true, true, true, false, false, false] rfl rfl (any_of HT_.out (by kernel_rfl)) (fun _ _ _ h => h) (Or.inl ⟨by rfl, ?_⟩) ?_ ?_
                        rotate_left
                        · intro w'
                          go_simp
                          with_reducible rfl
                        rotate_left
                        · simp only [Act.put, List.setIfInBounds_toArray, List.set_cons_zero, List.set_cons_succ, i64_w, i32_w]
                          rfl
                        refine take_ (i := 7) (N := some 23) (v := ?_) (a' := ?_) #[true, true, true, true, true, true, true, true, true, true, true, true, false, false, false] rfl rfl (take_ofW HT_.out HW_.out (by kernel_rfl)) (fun _ _ _ h => h) (Or.inl ⟨by rfl, ?_⟩) hHeld ?_ ?_
                        rotate_left
                        · rintro w' ⟨s0, s1⟩
                          go_simp
                          with_reducible rfl
                        rotate_left
                        · simp only [Act.put, List.setIfInBounds_toArray, List.set_cons_zero, List.set_cons_succ, i64_w, i32_w]
                          rfl
                        refine take_ (i := 12) (N := some 28) (v := ?_) (a' := ?_) #[true, true, true, true, true, true, true, true, true, true, true, true, true, false, false] rfl rfl (take_ofW HT_.out HW_.out (by kernel_rfl)) (fun _ _ _ h => h) (Or.inl ⟨by rfl, ?_⟩) hHeld ?_ ?_
                        rotate_left
                        · rintro w' ⟨s0, s1⟩
                          go_simp
                          with_reducible rfl
                        rotate_left
                        · simp only [Act.put, List.setIfInBounds_toArray, List.set_cons_zero, List.set_cons_succ, i64_w, i32_w]
                          rfl
                        refine one_ (i := 13) (N := some 29) #[true, true, true, true, true, true, true, true, true, true, true, true, true, true, false] rfl rfl (one_of HT_.out (by kernel_rfl)) (by decide) (fun K hK => ?_)
                        refine goes_ Try.func88 (by kernel_rfl) rfl #[.int .i64 (rd x0_2 x7_2), .int .i64 (rd x0_2 (ji8))] (by rfl) rfl rfl (by (try simp only [List.map_toArray, List.map_cons, List.map_nil]); first | done | (simp only [hji8]; rfl) | rfl | (simp only [List.length_drop, List.length_take]; rfl)) ?_
                        with_reducible refine (cmp_Less_int.calls (rd x0_2 x7_2) (rd x0_2 (ji8)) true _ A11.out).mono ?_
                        rintro e w' ⟨rfl, ⟨nd, rfl⟩⟩
                        refine ⟨_, rfl, ?_⟩
                        refine hK.out _ _ ⟨hHeld.1, hHeld.2⟩ (fun hHeld => ?_)
                        clear hK K
                        refine norm_ (a' := ?_) ?_ ?_
                        rotate_left
                        · show Act.put _ (some 29) _ = _
                          simp only [Act.put, List.setIfInBounds_toArray, List.set_cons_zero, List.set_cons_succ, i64_w, i32_w]
                          rfl
                        refine pure_ (i := 14) (N := some 30) (v := ?_) (a' := ?_) #[true, true, true, true, true, true, true, true, true, true, true, true, true, true, true] rfl rfl (any_of HT_.out (by kernel_rfl)) (fun _ _ _ h => h) (Or.inl ⟨by rfl, ?_⟩) ?_ ?_
                        rotate_left
                        · intro w'
                          go_simp
                          with_reducible rfl
                        rotate_left
                        · simp only [Act.put, List.setIfInBounds_toArray, List.set_cons_zero, List.set_cons_succ, i64_w, i32_w]
                          rfl
                        refine done_ (done_of HT_.out (by kernel_rfl)) ?_
                        try go_wp2
                        (try (rw [drewN_self w15]; generalize hq_ : World.drewN w15 _ = w15; have n0_ : Aside0 (Kd.R (Kd.int .i64) 3 w15 w0.heap.size (fun k_ => (P0_ k_ ∨ w.heap.size ≤ k_)) (.slice (some ad103) x0_2.length co16) x0_2) := ⟨by rw [← hq_]; exact (by (with_reducible repeat (first | apply Kd.R_alloc | apply Kd.R_drewN | apply Kd.R_drew)); exact HO_0.out)⟩; have n1_ : Aside0 (Kept w w15 (fun k_ => P0_ k_)) := ⟨by rw [← hq_]; exact (by repeat (first | (with_reducible first | exact HK.out | apply Kept.alloc | apply Kept.drewN | apply Kept.drew) | exact HK.out))⟩; have n2_ : Aside0 (Below w0.heap.size w0 w15) := ⟨by rw [← hq_]; exact (by repeat (first | (with_reducible first | exact HB.out | apply below_alloc | apply pw_below_drewN | apply below_drew1) | exact HB.out))⟩; clear HO_0 HK HB hq_; have HO_0 := n0_; have HK := n1_; have HB := n2_; clear n0_ n1_ n2_))
                        have n0_ := Aside0.mk (Kd.R_drew HO_0.out)
                        have n1_ := Aside0.mk (Kept.drew HK.out)
                        have n2_ := Aside0.mk (below_drew1 HB.out)
                        clear HO_0
                        clear HK
                        clear HB
                        have HO_0 := n0_
                        have HK := n1_
                        have HB := n2_
                        clear n0_ n1_ n2_
                        have p106 : 0 ≤ ((ji8) : Int) := of_decide_eq_true (by first | (with_reducible assumption) | assumption)
                        have q106 : (ji8) < (x0_2.length : Int) := of_decide_eq_true (by first | (with_reducible assumption) | assumption)
                        obtain ⟨ad106, e106, hx106_0⟩ := Kd.at_int (Kd.R_reads' HO_0.out).2.2 (ji8) p106 q106
                        obtain rfl : ad103 = ad106 := (by injection e106)
                        replace p106 := eq_true p106
                        replace q106 := eq_true q106
                        have p107 : 0 ≤ (x7_2 : Int) := of_decide_eq_true (by first | (with_reducible assumption) | assumption)
                        have q107 : x7_2 < (x0_2.length : Int) := of_decide_eq_true (by first | (with_reducible assumption) | assumption)
                        obtain ⟨ad107, e107, hx107_0⟩ := Kd.at_int (Kd.R_reads' HO_0.out).2.2 x7_2 p107 q107
                        obtain rfl : ad103 = ad107 := (by injection e107)
                        replace p107 := eq_true p107
                        replace q107 := eq_true q107
                        have p13 : 0 ≤ (x7_2 : Int) := of_decide_eq_true (by first | (with_reducible assumption) | assumption)
                        have q13 : (x7_2 : Int) < ((x0_2.length : Int) : Int) := of_decide_eq_true (by first | (with_reducible assumption) | assumption)
                        obtain ⟨go13, co13, eo13, gb13, gl13, cl13, HG13⟩ := Kd.R_form HO_0.out (by omega)
                        (first | cases eo13 | (injection eo13 with ea_ en_ ec_; (first | subst ea_ | (injection ea_ with ea_; subst ea_)); subst ec_; clear en_))
                        have GB13 := Aside0.mk gb13
                        have GG13 := Aside0.mk HG13
                        clear gb13 gl13 HG13
                        have HMgo13 := Aside0.mk (show (P0_ go13 ∨ w.heap.size ≤ go13) from (HO_0.out.1 _ rfl))
                        (first | simp only [add_plain] at hx103_0 | skip)
                        (first | simp only [add_plain] at hx104_0 | skip)
                        (first | simp only [add_plain] at hx106_0 | skip)
                        (first | simp only [add_plain] at hx107_0 | skip)
                        obtain ⟨hx13_0, hf13_0⟩ := Kd.R_celln 0 HO_0.out (x7_2 : Int) p13 q13
                        replace p13 := eq_true p13
                        replace q13 := eq_true q13
                        have HP18 := Kd.R_putn HO_0.out (x7_2 : Int) (rd x0_2 (ji8))
                        rw [← Ny108.out] at HP18
                        have HQ18 := Aside0.mk HP18
                        clear HP18
                        have p14 : 0 ≤ ((ji8) : Int) := of_decide_eq_true (by first | (with_reducible assumption) | assumption)
                        have q14 : ((ji8) : Int) < ((x0_2.length : Int) : Int) := of_decide_eq_true (by first | (with_reducible assumption) | assumption)
                        obtain ⟨hx14_0, hf14_0⟩ := Kd.R_celln 0 HQ18.out ((ji8) : Int) p14 q14
                        replace p14 := eq_true p14
                        replace q14 := eq_true q14
                        have HP19 := Kd.R_putn HQ18.out ((ji8) : Int) (rd x0_2 x7_2)
                        rw [← Ny109.out] at HP19
                        have HQ19 := Aside0.mk HP19
                        clear HP19
                        refine start_ (n := 18) (S := fun w' => w'.cell? ⟨go13, ((ji8)).toNat, none⟩ = some (.int .i64 (rd x0_2 (ji8))) ∧ w'.cell? ⟨go13, (x7_2).toNat, none⟩ = some (.int .i64 (rd x0_2 x7_2))) (ds := [15, 17]) #[false, false, false, false, false, false, false, false, false, false, false, false, false, false, false, false, false, false] (by kernel_rfl) rfl rfl ⟨hx106_0, hx107_0⟩ (fun hHeld => ?_); refine with_tabW slices_insertionSortOrdered_int.tab6 slices_insertionSortOrdered_int.bits6 (fun HT_ HW_ => ?_)
                        generalize w15.drew = w17 at HO_0 HK HB GG13 HQ18 HQ19 hf13_0 hf14_0 hx103_0 hx104_0 hx106_0 hx107_0 hx13_0 hx14_0 hHeld ⊢
                        refine pure_ (i := 0) (N := some 33) (v := ?_) (a' := ?_) #[true, false, false, false, false, false, false, false, false, false, false, false, false, false, false, false, false, false] rfl rfl (any_of HT_.out (by kernel_rfl)) (fun _ _ _ h => h) (Or.inl ⟨by rfl, ?_⟩) ?_ ?_
                        rotate_left
                        · intro w'
                          go_simp
                          with_reducible rfl
                        rotate_left
                        · simp only [Act.put, List.setIfInBounds_toArray, List.set_cons_zero, List.set_cons_succ, i64_w, i32_w]
                          rfl
                        refine pure_ (i := 1) (N := some 34) (v := ?_) (a' := ?_) #[true, true, false, false, false, false, false, false, false, false, false, false, false, false, false, false, false, false] rfl rfl (any_of HT_.out (by kernel_rfl)) (fun _ _ _ h => h) (Or.inl ⟨by rfl, ?_⟩) ?_ ?_
                        rotate_left
                        · intro w'
                          go_simp
                          with_reducible rfl
                        rotate_left
                        · simp only [Act.put, List.setIfInBounds_toArray, List.set_cons_zero, List.set_cons_succ, i64_w, i32_w]
                          rfl
                        refine pure_ (i := 2) (N := some 35) (v := ?_) (a' := ?_) #[true, true, true, false, false, false, false, false, false, false, false, false, false, false, false, false, false, false] rfl rfl (any_of HT_.out (by kernel_rfl)) (fun _ _ _ h => h) (Or.inl ⟨by rfl, ?_⟩) ?_ ?_
                        rotate_left
                        · intro w'
                          go_simp
                          with_reducible rfl
                        rotate_left
                        · simp only [Act.put, List.setIfInBounds_toArray, List.set_cons_zero, List.set_cons_succ, i64_w, i32_w]
                          rfl
                        refine pure_ (i := 3) (N := some 36) (v := ?_) (a' := ?_) #[true, true, true, true, false, false, false, false, false, false, false, false, false, false, false, false, false, false] rfl rfl (any_of HT_.out (by kernel_rfl)) (fun _ _ _ h => h) (Or.inl ⟨by rfl, ?_⟩) ?_ ?_
                        rotate_left
                        · intro w'
                          go_simp
                          with_reducible rfl
                        rotate_left
                        · simp only [Act.put, List.setIfInBounds_toArray, List.set_cons_zero, List.set_cons_succ, i64_w, i32_w]
                          rfl
                        refine pure_ (i := 4) (N := some 37) (v := ?_) (a' := ?_) #[true, true, true, true, true, false, false, false, false, false, false, false, false, false, false, false, false, false] rfl rfl (any_of HT_.out (by kernel_rfl)) (fun _ _ _ h => h) (Or.inl ⟨by rfl, ?_⟩) ?_ ?_
                        rotate_left
                        · intro w'
                          go_simp
                          with_reducible rfl
                        rotate_left
                        · simp only [Act.put, List.setIfInBounds_toArray, List.set_cons_zero, List.set_cons_succ, i64_w, i32_w]
                          rfl
                        refine pure_ (i := 5) (N := some 38) (v := ?_) (a' := ?_) #[true, true, true, true, true, true, false, false, false, false, false, false, false, false, false, false, false, false] rfl rfl (any_of HT_.out (by kernel_rfl)) (fun _ _ _ h => h) (Or.inl ⟨by rfl, ?_⟩) ?_ ?_
                        rotate_left
                        · intro w'
                          go_simp
                          with_reducible rfl
                        rotate_left
                        · simp only [Act.put, List.setIfInBounds_toArray, List.set_cons_zero, List.set_cons_succ, i64_w, i32_w]
                          rfl
                        refine pure_ (i := 6) (N := some 39) (v := ?_) (a' := ?_) #[true, true, true, true, true, true, true, false, false, false, false, false, false, false, false, false, false, false] rfl rfl (any_of HT_.out (by kernel_rfl)) (fun _ _ _ h => h) (Or.inl ⟨by rfl, ?_⟩) ?_ ?_
                        rotate_left
                        · intro w'
                          go_simp
                          with_reducible rfl
                        rotate_left
                        · simp only [Act.put, List.setIfInBounds_toArray, List.set_cons_zero, List.set_cons_succ, i64_w, i32_w]
                          rfl
                        refine pure_ (i := 7) (N := some 40) (v := ?_) (a' := ?_) #[true, true, true, true, true, true, true, true, false, false, false, false, false, false, false, false, false, false] rfl rfl (any_of HT_.out (by kernel_rfl)) (fun _ _ _ h => h) (Or.inl ⟨by rfl, ?_⟩) ?_ ?_
                        rotate_left
                        · intro w'
                          go_simp
                          with_reducible rfl
                        rotate_left
                        · simp only [Act.put, List.setIfInBounds_toArray, List.set_cons_zero, List.set_cons_succ, i64_w, i32_w]
                          rfl
                        refine pure_ (i := 8) (N := some 41) (v := ?_) (a' := ?_) #[true, true, true, true, true, true, true, true, true, false, false, false, false, false, false, false, false, false] rfl rfl (any_of HT_.out (by kernel_rfl)) (fun _ _ _ h => h) (Or.inl ⟨by rfl, ?_⟩) ?_ ?_
                        rotate_left
                        · intro w'
                          go_simp
                          with_reducible rfl
                        rotate_left
                        · simp only [Act.put, List.setIfInBounds_toArray, List.set_cons_zero, List.set_cons_succ, i64_w, i32_w]
                          rfl
                        refine pure_ (i := 10) (N := some 43) (v := ?_) (a' := ?_) #[true, true, true, true, true, true, true, true, true, false, true, false, false, false, false, false, false, false] rfl rfl (any_of HT_.out (by kernel_rfl)) (fun _ _ _ h => h) (Or.inl ⟨by rfl, ?_⟩) ?_ ?_
                        rotate_left
                        · intro w'
                          go_simp
                          with_reducible rfl
                        rotate_left
                        · simp only [Act.put, List.setIfInBounds_toArray, List.set_cons_zero, List.set_cons_succ, i64_w, i32_w]
                          rfl
                        refine pure_ (i := 11) (N := some 44) (v := ?_) (a' := ?_) #[true, true, true, true, true, true, true, true, true, false, true, true, false, false, false, false, false, false] rfl rfl (any_of HT_.out (by kernel_rfl)) (fun _ _ _ h => h) (Or.inl ⟨by rfl, ?_⟩) ?_ ?_
                        rotate_left
                        · intro w'
                          go_simp
                          with_reducible rfl
                        rotate_left
                        · simp only [Act.put, List.setIfInBounds_toArray, List.set_cons_zero, List.set_cons_succ, i64_w, i32_w]
                          rfl
                        refine pure_ (i := 12) (N := some 45) (v := ?_) (a' := ?_) #[true, true, true, true, true, true, true, true, true, false, true, true, true, false, false, false, false, false] rfl rfl (any_of HT_.out (by kernel_rfl)) (fun _ _ _ h => h) (Or.inl ⟨by rfl, ?_⟩) ?_ ?_
                        rotate_left
                        · intro w'
                          go_simp
                          with_reducible rfl
                        rotate_left
                        · simp only [Act.put, List.setIfInBounds_toArray, List.set_cons_zero, List.set_cons_succ, i64_w, i32_w]
                          rfl
                        refine take_ (i := 9) (N := some 42) (v := ?_) (a' := ?_) #[true, true, true, true, true, true, true, true, true, true, true, true, true, false, false, false, false, false] rfl rfl (take_ofW HT_.out HW_.out (by kernel_rfl)) (fun _ _ _ h => h) (Or.inl ⟨by rfl, ?_⟩) hHeld ?_ ?_
                        rotate_left
                        · rintro w' ⟨s0, s1⟩
                          go_simp
                          with_reducible rfl
                        rotate_left
                        · simp only [Act.put, List.setIfInBounds_toArray, List.set_cons_zero, List.set_cons_succ, i64_w, i32_w]
                          rfl
                        refine take_ (i := 13) (N := some 46) (v := ?_) (a' := ?_) #[true, true, true, true, true, true, true, true, true, true, true, true, true, true, false, false, false, false] rfl rfl (take_ofW HT_.out HW_.out (by kernel_rfl)) (fun _ _ _ h => h) (Or.inl ⟨by rfl, ?_⟩) hHeld ?_ ?_
                        rotate_left
                        · rintro w' ⟨s0, s1⟩
                          go_simp
                          with_reducible rfl
                        rotate_left
                        · simp only [Act.put, List.setIfInBounds_toArray, List.set_cons_zero, List.set_cons_succ, i64_w, i32_w]
                          rfl
                        refine pure_ (i := 14) (N := some 47) (v := ?_) (a' := ?_) #[true, true, true, true, true, true, true, true, true, true, true, true, true, true, true, false, false, false] rfl rfl (any_of HT_.out (by kernel_rfl)) (fun _ _ _ h => h) (Or.inl ⟨by rfl, ?_⟩) ?_ ?_
                        rotate_left
                        · intro w'
                          go_simp
                          with_reducible rfl
                        rotate_left
                        · simp only [Act.put, List.setIfInBounds_toArray, List.set_cons_zero, List.set_cons_succ, i64_w, i32_w]
                          rfl
                        refine last_ (i := 15) (N := none) #[true, true, true, true, true, true, true, true, true, true, true, true, true, true, true, true, false, false] rfl rfl (one_of HT_.out (by kernel_rfl)) (by decide) (fun K hK => ?_)
                        refine skip_ (w1 := ?_) (by rfl) rfl ?_ ?_
                        rotate_left
                        · go_simp
                          rfl
                        refine hK.out _ _ ?_
                        clear hK K
                        refine pure_ (i := 16) (N := some 48) (v := ?_) (a' := ?_) #[true, true, true, true, true, true, true, true, true, true, true, true, true, true, true, true, true, false] rfl rfl (any_of HT_.out (by kernel_rfl)) (fun _ _ _ h => h) (Or.inl ⟨by rfl, ?_⟩) ?_ ?_
                        rotate_left
                        · intro w'
                          go_simp
                          with_reducible rfl
                        rotate_left
                        · simp only [Act.put, List.setIfInBounds_toArray, List.set_cons_zero, List.set_cons_succ, i64_w, i32_w]
                          rfl
                        refine last_ (i := 17) (N := none) #[true, true, true, true, true, true, true, true, true, true, true, true, true, true, true, true, true, true] rfl rfl (one_of HT_.out (by kernel_rfl)) (by decide) (fun K hK => ?_)
                        refine skip_ (w1 := ?_) (by rfl) rfl ?_ ?_
                        rotate_left
                        · go_simp
                          rfl
                        refine hK.out _ _ ?_
                        clear hK K
                        refine done_ (done_of HT_.out (by kernel_rfl)) ?_
                        try go_wp2
                        go_roundg k2
                        case measure => have := HK1.out; have := HK2.out; omega
                        case rel => exact ⟨(y109), (ji8), (by first | rfl | (simp; done) | (simp only [← hji8] <;> (first | rfl | simp)) | (simp [*]; done)), H', ⟨by have := HK1.out; have := HK2.out; omega⟩, ⟨by (with_reducible repeat (first | apply Kd.R_alloc | apply Kd.R_drewN | apply Kd.R_drew)); exact HQ19.out⟩, ⟨by repeat (first | (with_reducible first | exact HK.out | apply Kept.alloc | apply Kept.drewN | apply Kept.drew | refine Kept.setCell ?_ HMgo13.out _ | refine Kept.setCell ?_ HMgo13.out _) | exact HK.out)⟩, ⟨by repeat (first | (with_reducible first | exact HB.out | apply below_alloc | apply pw_below_drewN | apply below_drew1 | refine below_set ?_ GB13.out | refine below_set ?_ GB13.out) | exact HB.out)⟩⟩
                      · replace c12 := Bool.eq_false_iff.mpr c12
                        subst c12
                        have H1 : (slices_insertionSortOrdered_int.l0 k2 x0_2 a1 a2 (wrap64 (x6_1 + 1))) = some r := by rw [if_neg (show ¬ (false = true) by decide)] at H; exact H
                        clear H
                        have H := H1
                        clear H1
                        have H' := Aside0.mk H
                        clear H
                        try go_wp2
                        have n0_ := Aside0.mk (Kd.R_drew HO_0.out)
                        have n1_ := Aside0.mk (Kept.drew HK.out)
                        have n2_ := Aside0.mk (below_drew1 HB.out)
                        clear HO_0
                        clear HK
                        clear HB
                        have HO_0 := n0_
                        have HK := n1_
                        have HB := n2_
                        clear n0_ n1_ n2_
                        obtain ⟨Ao21, co21, eo21⟩ := Kd.R_slice HO_0.out
                        (first | subst eo21 | (injection eo21 with f1_ f2_ f3_; have f4_ := f1_.symm; have f5_ := f3_.symm; clear f1_ f2_ f3_; subst f4_; subst f5_))
                        have p103 : 0 ≤ (x7_2 : Int) := of_decide_eq_true (by first | (with_reducible assumption) | assumption)
                        have q103 : x7_2 < (x0_2.length : Int) := of_decide_eq_true (by first | (with_reducible assumption) | assumption)
                        obtain ⟨ad103, e103, hx103_0⟩ := Kd.at_int (Kd.R_reads' HO_0.out).2.2 x7_2 p103 q103
                        cases e103
                        replace p103 := eq_true p103
                        replace q103 := eq_true q103
                        have p104 : 0 ≤ ((ji8) : Int) := of_decide_eq_true (by first | (with_reducible assumption) | assumption)
                        have q104 : (ji8) < (x0_2.length : Int) := of_decide_eq_true (by first | (with_reducible assumption) | assumption)
                        obtain ⟨ad104, e104, hx104_0⟩ := Kd.at_int (Kd.R_reads' HO_0.out).2.2 (ji8) p104 q104
                        obtain rfl : ad103 = ad104 := (by injection e104)
                        replace p104 := eq_true p104
                        replace q104 := eq_true q104
                        refine start_ (n := 15) (S := fun w' => w'.cell? (ad103.add (x7_2).toNat) = some (.int .i64 (rd x0_2 x7_2)) ∧ w'.cell? (ad103.add ((ji8)).toNat) = some (.int .i64 (rd x0_2 (ji8)))) (ds := []) #[false, false, false, false, false, false, false, false, false, false, false, false, false, false, false] (by kernel_rfl) rfl rfl ⟨hx103_0, hx104_0⟩ (fun hHeld => ?_); refine with_tabW slices_insertionSortOrdered_int.tab4 slices_insertionSortOrdered_int.bits4 (fun HT_ HW_ => ?_)
                        generalize wr.drew = w20 at HO_0 HK HB hx103_0 hx104_0 hHeld ⊢
                        refine pure_ (i := 0) (N := some 16) (v := ?_) (a' := ?_) #[true, false, false, false, false, false, false, false, false, false, false, false, false, false, false] rfl rfl (any_of HT_.out (by kernel_rfl)) (fun _ _ _ h => h) (Or.inl ⟨by rfl, ?_⟩) ?_ ?_
                        rotate_left
                        · intro w'
                          go_simp
                          with_reducible rfl
                        rotate_left
                        · simp only [Act.put, List.setIfInBounds_toArray, List.set_cons_zero, List.set_cons_succ, i64_w, i32_w]
                          rfl
                        refine pure_ (i := 1) (N := some 17) (v := ?_) (a' := ?_) #[true, true, false, false, false, false, false, false, false, false, false, false, false, false, false] rfl rfl (any_of HT_.out (by kernel_rfl)) (fun _ _ _ h => h) (Or.inl ⟨by rfl, ?_⟩) ?_ ?_
                        rotate_left
                        · intro w'
                          go_simp
                          with_reducible rfl
                        rotate_left
                        · simp only [Act.put, List.setIfInBounds_toArray, List.set_cons_zero, List.set_cons_succ, i64_w, i32_w]
                          rfl
                        refine pure_ (i := 2) (N := some 18) (v := ?_) (a' := ?_) #[true, true, true, false, false, false, false, false, false, false, false, false, false, false, false] rfl rfl (any_of HT_.out (by kernel_rfl)) (fun _ _ _ h => h) (Or.inl ⟨by rfl, ?_⟩) ?_ ?_
                        rotate_left
                        · intro w'
                          go_simp
                          with_reducible rfl
                        rotate_left
                        · simp only [Act.put, List.setIfInBounds_toArray, List.set_cons_zero, List.set_cons_succ, i64_w, i32_w]
                          rfl
                        refine pure_ (i := 3) (N := some 19) (v := ?_) (a' := ?_) #[true, true, true, true, false, false, false, false, false, false, false, false, false, false, false] rfl rfl (any_of HT_.out (by kernel_rfl)) (fun _ _ _ h => h) (Or.inl ⟨by rfl, ?_⟩) ?_ ?_
                        rotate_left
                        · intro w'
                          go_simp
                          with_reducible rfl
                        rotate_left
                        · simp only [Act.put, List.setIfInBounds_toArray, List.set_cons_zero, List.set_cons_succ, i64_w, i32_w]
                          rfl
                        refine pure_ (i := 4) (N := some 20) (v := ?_) (a' := ?_) #[true, true, true, true, true, false, false, false, false, false, false, false, false, false, false] rfl rfl (any_of HT_.out (by kernel_rfl)) (fun _ _ _ h => h) (Or.inl ⟨by rfl, ?_⟩) ?_ ?_
                        rotate_left
                        · intro w'
                          go_simp
                          with_reducible rfl
                        rotate_left
                        · simp only [Act.put, List.setIfInBounds_toArray, List.set_cons_zero, List.set_cons_succ, i64_w, i32_w]
                          rfl
                        refine pure_ (i := 5) (N := some 21) (v := ?_) (a' := ?_) #[true, true, true, true, true, true, false, false, false, false, false, false, false, false, false] rfl rfl (any_of HT_.out (by kernel_rfl)) (fun _ _ _ h => h) (Or.inl ⟨by rfl, ?_⟩) ?_ ?_
                        rotate_left
                        · intro w'
                          go_simp
                          with_reducible rfl
                        rotate_left
                        · simp only [Act.put, List.setIfInBounds_toArray, List.set_cons_zero, List.set_cons_succ, i64_w, i32_w]
                          rfl
                        refine pure_ (i := 6) (N := some 22) (v := ?_) (a' := ?_) #[true, true, true, true, true, true, true, false, false, false, false, false, false, false, false] rfl rfl (any_of HT_.out (by kernel_rfl)) (fun _ _ _ h => h) (Or.inl ⟨by rfl, ?_⟩) ?_ ?_
                        rotate_left
                        · intro w'
                          go_simp
                          with_reducible rfl
                        rotate_left
                        · simp only [Act.put, List.setIfInBounds_toArray, List.set_cons_zero, List.set_cons_succ, i64_w, i32_w]
                          rfl
                        refine pure_ (i := 8) (N := some 24) (v := ?_) (a' := ?_) #[true, true, true, true, true, true, true, false, true, false, false, false, false, false, false] rfl rfl (any_of HT_.out (by kernel_rfl)) (fun _ _ _ h => h) (Or.inl ⟨by rfl, ?_⟩) ?_ ?_
                        rotate_left
                        · intro w'
                          go_simp
                          with_reducible rfl
                        rotate_left
                        · simp only [Act.put, List.setIfInBounds_toArray, List.set_cons_zero, List.set_cons_succ, i64_w, i32_w]
                          rfl
                        refine pure_ (i := 9) (N := some 25) (v := ?_) (a' := ?_) #[true, true, true, true, true, true, true, false, true, true, false, false, false, false, false] rfl rfl (any_of HT_.out (by kernel_rfl)) (fun _ _ _ h => h) (Or.inl ⟨by rfl, ?_⟩) ?_ ?_
                        rotate_left
                        · intro w'
                          go_simp
                          with_reducible rfl
                        rotate_left
                        · simp only [Act.put, List.setIfInBounds_toArray, List.set_cons_zero, List.set_cons_succ, i64_w, i32_w]
                          rfl
                        refine pure_ (i := 10) (N := some 26) (v := ?_) (a' := ?_) #[true, true, true, true, true, true, true, false, true, true, true, false, false, false, false] rfl rfl (any_of HT_.out (by kernel_rfl)) (fun _ _ _ h => h) (Or.inl ⟨by rfl, ?_⟩) ?_ ?_
                        rotate_left
                        · intro w'
                          go_simp
                          with_reducible rfl
                        rotate_left
                        · simp only [Act.put, List.setIfInBounds_toArray, List.set_cons_zero, List.set_cons_succ, i64_w, i32_w]
                          rfl
                        refine pure_ (i := 11) (N := some 27) (v := ?_) (a' := ?_) #[true, true, true, true, true, true, true, false, true, true, true, true, false, false, false] rfl rfl (any_of HT_.out (by kernel_rfl)) (fun _ _ _ h => h) (Or.inl ⟨by rfl, ?_⟩) ?_ ?_
                        rotate_left
                        · intro w'
                          go_simp
                          with_reducible rfl
                        rotate_left
                        · simp only [Act.put, List.setIfInBounds_toArray, List.set_cons_zero, List.set_cons_succ, i64_w, i32_w]
                          rfl
                        refine take_ (i := 7) (N := some 23) (v := ?_) (a' := ?_) #[true, true, true, true, true, true, true, true, true, true, true, true, false, false, false] rfl rfl (take_ofW HT_.out HW_.out (by kernel_rfl)) (fun _ _ _ h => h) (Or.inl ⟨by rfl, ?_⟩) hHeld ?_ ?_
                        rotate_left
                        · rintro w' ⟨s0, s1⟩
                          go_simp
                          with_reducible rfl
                        rotate_left
                        · simp only [Act.put, List.setIfInBounds_toArray, List.set_cons_zero, List.set_cons_succ, i64_w, i32_w]
                          rfl
                        refine take_ (i := 12) (N := some 28) (v := ?_) (a' := ?_) #[true, true, true, true, true, true, true, true, true, true, true, true, true, false, false] rfl rfl (take_ofW HT_.out HW_.out (by kernel_rfl)) (fun _ _ _ h => h) (Or.inl ⟨by rfl, ?_⟩) hHeld ?_ ?_
                        rotate_left
                        · rintro w' ⟨s0, s1⟩
                          go_simp
                          with_reducible rfl
                        rotate_left
                        · simp only [Act.put, List.setIfInBounds_toArray, List.set_cons_zero, List.set_cons_succ, i64_w, i32_w]
                          rfl
                        refine one_ (i := 13) (N := some 29) #[true, true, true, true, true, true, true, true, true, true, true, true, true, true, false] rfl rfl (one_of HT_.out (by kernel_rfl)) (by decide) (fun K hK => ?_)
                        refine goes_ Try.func88 (by kernel_rfl) rfl #[.int .i64 (rd x0_2 x7_2), .int .i64 (rd x0_2 (ji8))] (by rfl) rfl rfl (by (try simp only [List.map_toArray, List.map_cons, List.map_nil]); first | done | (simp only [hji8]; rfl) | rfl | (simp only [List.length_drop, List.length_take]; rfl)) ?_
                        with_reducible refine (cmp_Less_int.calls (rd x0_2 x7_2) (rd x0_2 (ji8)) false _ A11.out).mono ?_
                        rintro e w' ⟨rfl, ⟨nd, rfl⟩⟩
                        refine ⟨_, rfl, ?_⟩
                        refine hK.out _ _ ⟨hHeld.1, hHeld.2⟩ (fun hHeld => ?_)
                        clear hK K
                        refine norm_ (a' := ?_) ?_ ?_
                        rotate_left
                        · show Act.put _ (some 29) _ = _
                          simp only [Act.put, List.setIfInBounds_toArray, List.set_cons_zero, List.set_cons_succ, i64_w, i32_w]
                          rfl
                        refine pure_ (i := 14) (N := some 30) (v := ?_) (a' := ?_) #[true, true, true, true, true, true, true, true, true, true, true, true, true, true, true] rfl rfl (any_of HT_.out (by kernel_rfl)) (fun _ _ _ h => h) (Or.inl ⟨by rfl, ?_⟩) ?_ ?_
                        rotate_left
                        · intro w'
                          go_simp
                          with_reducible rfl
                        rotate_left
                        · simp only [Act.put, List.setIfInBounds_toArray, List.set_cons_zero, List.set_cons_succ, i64_w, i32_w]
                          rfl
                        refine done_ (done_of HT_.out (by kernel_rfl)) ?_
                        try go_wp2
                        go_roundg k2
                        case measure => have := HK1.out; have := HK2.out; omega
                        case rel => exact ⟨(x0_2), (wrap64 (x6_1 + 1)), (by first | rfl | (simp; done) | (simp [*]; done)), H', ⟨by have := HK1.out; have := HK2.out; omega⟩, ⟨by (with_reducible repeat (first | apply Kd.R_alloc | apply Kd.R_drewN | apply Kd.R_drew)); exact HO_0.out⟩, ⟨by repeat (first | (with_reducible first | exact HK.out | apply Kept.alloc | apply Kept.drewN | apply Kept.drew) | exact HK.out)⟩, ⟨by repeat (first | (with_reducible first | exact HB.out | apply below_alloc | apply pw_below_drewN | apply below_drew1) | exact HB.out)⟩⟩
                    · rw [if_neg c10] at H
                      exact absurd H (by simp)
                  · rw [if_neg c9] at H
                    exact absurd H (by simp)
                · rw [if_neg c7] at H
                  exact absurd H (by simp)
              · rw [if_neg c6] at H
                exact absurd H (by simp)
            · rw [if_neg c5] at H
              have c5b0 : decide (a1 < x7_2) = false := decide_eq_false c5
              clear c5
              have H' := Aside0.mk H
              clear H
              try go_wp2
              have n0_ := Aside0.mk (Kd.R_drew HO_0.out)
              have n1_ := Aside0.mk (Kept.drew HK.out)
              have n2_ := Aside0.mk (below_drew1 HB.out)
              clear HO_0
              clear HK
              clear HB
              have HO_0 := n0_
              have HK := n1_
              have HB := n2_
              clear n0_ n1_ n2_
              refine start_ (n := 15) (S := fun w' => True) (ds := []) #[false, false, false, false, false, false, false, false, false, false, false, false, false, false, false] (by kernel_rfl) rfl rfl trivial (fun hHeld => ?_); refine with_tabW slices_insertionSortOrdered_int.tab4 slices_insertionSortOrdered_int.bits4 (fun HT_ HW_ => ?_)
              generalize wr.drew = w22 at HO_0 HK HB hHeld ⊢
              refine pure_ (i := 0) (N := some 16) (v := ?_) (a' := ?_) #[true, false, false, false, false, false, false, false, false, false, false, false, false, false, false] rfl rfl (any_of HT_.out (by kernel_rfl)) (fun _ _ _ h => h) (Or.inl ⟨by rfl, ?_⟩) ?_ ?_
              rotate_left
              · intro w'
                go_simp
                with_reducible rfl
              rotate_left
              · simp only [Act.put, List.setIfInBounds_toArray, List.set_cons_zero, List.set_cons_succ, i64_w, i32_w]
                rfl
              refine pure_ (i := 1) (N := some 17) (v := ?_) (a' := ?_) #[true, true, false, false, false, false, false, false, false, false, false, false, false, false, false] rfl rfl (any_of HT_.out (by kernel_rfl)) (fun _ _ _ h => h) (Or.inl ⟨by rfl, ?_⟩) ?_ ?_
              rotate_left
              · intro w'
                go_simp
                with_reducible rfl
              rotate_left
              · simp only [Act.put, List.setIfInBounds_toArray, List.set_cons_zero, List.set_cons_succ, i64_w, i32_w]
                rfl
              refine pure_ (i := 2) (N := some 18) (v := ?_) (a' := ?_) #[true, true, true, false, false, false, false, false, false, false, false, false, false, false, false] rfl rfl (any_of HT_.out (by kernel_rfl)) (fun _ _ _ h => h) (Or.inl ⟨by rfl, ?_⟩) ?_ ?_
              rotate_left
              · intro w'
                go_simp
                with_reducible rfl
              rotate_left
              · simp only [Act.put, List.setIfInBounds_toArray, List.set_cons_zero, List.set_cons_succ, i64_w, i32_w]
                rfl
              refine pure_ (i := 3) (N := some 19) (v := ?_) (a' := ?_) #[true, true, true, true, false, false, false, false, false, false, false, false, false, false, false] rfl rfl (any_of HT_.out (by kernel_rfl)) (fun _ _ _ h => h) (Or.inl ⟨by rfl, ?_⟩) ?_ ?_
              rotate_left
              · intro w'
                go_simp
                with_reducible rfl
              rotate_left
              · simp only [Act.put, List.setIfInBounds_toArray, List.set_cons_zero, List.set_cons_succ, i64_w, i32_w]
                rfl
              refine pure_ (i := 4) (N := some 20) (v := undef) (a' := ?_) #[true, true, true, true, true, false, false, false, false, false, false, false, false, false, false] rfl rfl (any_of HT_.out (by kernel_rfl)) (fun _ _ _ h => h) (Or.inr ⟨by rfl, rfl⟩) ?_ ?_
              rotate_left
              · simp only [Act.put, List.setIfInBounds_toArray, List.set_cons_zero, List.set_cons_succ, i64_w, i32_w]
                rfl
              refine pure_ (i := 5) (N := some 21) (v := undef) (a' := ?_) #[true, true, true, true, true, true, false, false, false, false, false, false, false, false, false] rfl rfl (any_of HT_.out (by kernel_rfl)) (fun _ _ _ h => h) (Or.inr ⟨by rfl, rfl⟩) ?_ ?_
              rotate_left
              · simp only [Act.put, List.setIfInBounds_toArray, List.set_cons_zero, List.set_cons_succ, i64_w, i32_w]
                rfl
              refine pure_ (i := 6) (N := some 22) (v := undef) (a' := ?_) #[true, true, true, true, true, true, true, false, false, false, false, false, false, false, false] rfl rfl (any_of HT_.out (by kernel_rfl)) (fun _ _ _ h => h) (Or.inr ⟨by rfl, rfl⟩) ?_ ?_
              rotate_left
              · simp only [Act.put, List.setIfInBounds_toArray, List.set_cons_zero, List.set_cons_succ, i64_w, i32_w]
                rfl
              refine pure_ (i := 7) (N := some 23) (v := undef) (a' := ?_) #[true, true, true, true, true, true, true, true, false, false, false, false, false, false, false] rfl rfl (any_of HT_.out (by kernel_rfl)) (fun _ _ _ h => h) (Or.inr ⟨by rfl, rfl⟩) ?_ ?_
              rotate_left
              · simp only [Act.put, List.setIfInBounds_toArray, List.set_cons_zero, List.set_cons_succ, i64_w, i32_w]
                rfl
              refine pure_ (i := 8) (N := some 24) (v := undef) (a' := ?_) #[true, true, true, true, true, true, true, true, true, false, false, false, false, false, false] rfl rfl (any_of HT_.out (by kernel_rfl)) (fun _ _ _ h => h) (Or.inr ⟨by rfl, rfl⟩) ?_ ?_
              rotate_left
              · simp only [Act.put, List.setIfInBounds_toArray, List.set_cons_zero, List.set_cons_succ, i64_w, i32_w]
                rfl
              refine pure_ (i := 9) (N := some 25) (v := undef) (a' := ?_) #[true, true, true, true, true, true, true, true, true, true, false, false, false, false, false] rfl rfl (any_of HT_.out (by kernel_rfl)) (fun _ _ _ h => h) (Or.inr ⟨by rfl, rfl⟩) ?_ ?_
              rotate_left
              · simp only [Act.put, List.setIfInBounds_toArray, List.set_cons_zero, List.set_cons_succ, i64_w, i32_w]
                rfl
              refine pure_ (i := 10) (N := some 26) (v := undef) (a' := ?_) #[true, true, true, true, true, true, true, true, true, true, true, false, false, false, false] rfl rfl (any_of HT_.out (by kernel_rfl)) (fun _ _ _ h => h) (Or.inr ⟨by rfl, rfl⟩) ?_ ?_
              rotate_left
              · simp only [Act.put, List.setIfInBounds_toArray, List.set_cons_zero, List.set_cons_succ, i64_w, i32_w]
                rfl
              refine pure_ (i := 11) (N := some 27) (v := undef) (a' := ?_) #[true, true, true, true, true, true, true, true, true, true, true, true, false, false, false] rfl rfl (any_of HT_.out (by kernel_rfl)) (fun _ _ _ h => h) (Or.inr ⟨by rfl, rfl⟩) ?_ ?_
              rotate_left
              · simp only [Act.put, List.setIfInBounds_toArray, List.set_cons_zero, List.set_cons_succ, i64_w, i32_w]
                rfl
              refine pure_ (i := 12) (N := some 28) (v := undef) (a' := ?_) #[true, true, true, true, true, true, true, true, true, true, true, true, true, false, false] rfl rfl (any_of HT_.out (by kernel_rfl)) (fun _ _ _ h => h) (Or.inr ⟨by rfl, rfl⟩) ?_ ?_
              rotate_left
              · simp only [Act.put, List.setIfInBounds_toArray, List.set_cons_zero, List.set_cons_succ, i64_w, i32_w]
                rfl
              refine pure_ (i := 13) (N := some 29) (v := undef) (a' := ?_) #[true, true, true, true, true, true, true, true, true, true, true, true, true, true, false] rfl rfl (any_of HT_.out (by kernel_rfl)) (fun _ _ _ h => h) (Or.inr ⟨by rfl, rfl⟩) ?_ ?_
              rotate_left
              · simp only [Act.put, List.setIfInBounds_toArray, List.set_cons_zero, List.set_cons_succ, i64_w, i32_w]
                rfl
              refine pure_ (i := 14) (N := some 30) (v := ?_) (a' := ?_) #[true, true, true, true, true, true, true, true, true, true, true, true, true, true, true] rfl rfl (any_of HT_.out (by kernel_rfl)) (fun _ _ _ h => h) (Or.inl ⟨by rfl, ?_⟩) ?_ ?_
              rotate_left
              · intro w'
                go_simp
                with_reducible rfl
              rotate_left
              · simp only [Act.put, List.setIfInBounds_toArray, List.set_cons_zero, List.set_cons_succ, i64_w, i32_w]
                rfl
              refine done_ (done_of HT_.out (by kernel_rfl)) ?_
              try go_wp2
              go_roundg k2
              case measure => have := HK1.out; have := HK2.out; omega
              case rel => exact ⟨(x0_2), (wrap64 (x6_1 + 1)), (by first | rfl | (simp; done) | (simp [*]; done)), H', ⟨by have := HK1.out; have := HK2.out; omega⟩, ⟨by (with_reducible repeat (first | apply Kd.R_alloc | apply Kd.R_drewN | apply Kd.R_drew)); exact HO_0.out⟩, ⟨by repeat (first | (with_reducible first | exact HK.out | apply Kept.alloc | apply Kept.drewN | apply Kept.drew) | exact HK.out)⟩, ⟨by repeat (first | (with_reducible first | exact HB.out | apply below_alloc | apply pw_below_drewN | apply below_drew1) | exact HB.out)⟩⟩
      · rw [if_neg c4] at H
        have c4b0 : decide (x6_1 < a2) = false := decide_eq_false c4
        clear c4
        obtain rfl := Option.some.inj H
        go_wp2
        first | go_end0 | ((try simp only [Exit.inBlock, Exit.then]); refine bodyPost_ret (results_none rfl _ _ _) rfl ?_)
        exact ⟨by first | rfl | (simp [errW_none, errW_some] <;> rfl) | (simp [*, errW_none, errW_some] <;> rfl), by (with_reducible repeat (first | apply Kd.R_alloc | apply Kd.R_drewN | apply Kd.R_drew)); exact HO_0.out, by repeat (first | (with_reducible first | exact HB.out | apply below_alloc | apply pw_below_drewN | apply below_drew1) | exact HB.out), by repeat (first | (with_reducible first | exact HK.out | apply Kept.alloc | apply Kept.drewN | apply Kept.drew) | exact HK.out)⟩
end Go.Proofs.Ytodbmgafejclmaa.PRt
namespace Go.Proofs.Ytodbmgafejclmaa.Sr
open Go.RowKit Go.Proofs.YtodbmgafejclmaaW.PrintWords
open Go.Proofs.Ytodbmgafejclmaa.PRt
open Go.Proofs.Ytodbmgafejclmaa.Fld (srt)
set_option linter.unusedSimpArgs false
set_option linter.unusedVariables false
set_option maxRecDepth 100000 in
set_option maxHeartbeats 1000000 in
theorem len64_any (n : Nat) (hn : n ≤ 2) (w : World) : Calls Try.prog 92 #[.int .u64 n] w fun e w' => (∃ r : Int, e = .returned (.int .i64 r)) ∧ w' = w := by
  obtain rfl | rfl | rfl : n = 0 ∨ n = 1 ∨ n = 2 := by omega
  all_goals
    go_enter Try.func92, Try.ntmps92
    go_wp2
    go_ret
    exact ⟨⟨_, rfl⟩, rfl⟩
theorem len_any (n : Nat) (hn : n ≤ 2) (w : World) : Calls Try.prog 79 #[.int .u64 n] w fun e w' => (∃ r : Int, e = .returned (.int .i64 r)) ∧ w' = w := by
  go_enter Try.func79, Try.ntmps79
  go_wp2_with fail
  refine (len64_any n hn w).mono ?_
  rintro e w1 ⟨⟨r, rfl⟩, rfl⟩
  go_wp2
  go_ret
  exact ⟨⟨_, rfl⟩, rfl⟩
set_option maxRecDepth 100000 in
set_option maxHeartbeats 1000000 in
theorem pdq_any (k : Nat) (P0_ : Nat → Prop) (u : Value) (l0 : List Int) (m lim : Int) (r : List Int) (w0 w : World) (hB : Below w0.heap.size w0 w) (ho0 : Kd.R (Kd.int .i64) 3 w w0.heap.size P0_ u l0) (h0 : 0 ≤ m) (h2 : m ≤ 12) (h : slices_insertionSortOrdered_int.f k l0 0 m = some r) :
    Calls Try.prog 78 #[u, .int .i64 0, .int .i64 m, .int .i64 lim] w fun e w' => e = .returned (.tuple #[]) ∧ Kd.R (Kd.int .i64) 3 w' w0.heap.size (fun k_ => (P0_ k_ ∨ w.heap.size ≤ k_)) u r ∧ Below w0.heap.size w0 w' := by
  have HC := Lib.hid (slices_insertionSortOrdered_int.calls k P0_ u l0 0 m r w0 w hB ho0 h)
  clear hB ho0 h
  go_enter Try.func78, Try.ntmps78
  go_wp2_with fail
  go_loopw [1, 2] (fun a b wr => a = .int .i64 0 ∧ b = .int .i64 m ∧ wr = w) (fun _ _ _ => 0)
  case atStart => exact ⟨rfl, rfl, rfl⟩
  case round =>
    obtain ⟨rfl, rfl, rfl⟩ := hrel
    have hm : (decide (m ≤ 12)) = true := decide_eq_true h2
    have hw : wrap64 (m - 0) = m := by unfold wrap64; omega
    go_wp2_with fail
    refine HC.out.mono ?_
    rintro e w1 ⟨rfl, h1, h2, h3⟩
    go_wp2_with fail
    go_returns
    exact ⟨rfl, h1, h2⟩
theorem sort_any (k : Nat) (P0_ : Nat → Prop) (A : Option Addr) (c : Nat) (l0 : List Int) (r : List Int) (w0 w : World) (hB : Below w0.heap.size w0 w) (ho0 : Kd.R (Kd.int .i64) 3 w w0.heap.size P0_ (.slice A l0.length c) l0) (h2 : l0.length ≤ 2) (h : slices_insertionSortOrdered_int.f k l0 0 l0.length = some r) :
    Calls Try.prog 70 #[.slice A l0.length c] w fun e w' => e = .returned (.tuple #[]) ∧ Kd.R (Kd.int .i64) 3 w' w0.heap.size (fun k_ => (P0_ k_ ∨ w.heap.size ≤ k_)) (.slice A l0.length c) r ∧ Below w0.heap.size w0 w' := by
  have HC := Lib.hid (fun lim => pdq_any k P0_ (.slice A l0.length c) l0 l0.length lim r w0 w hB ho0 (by omega) (by omega) h)
  have HL := Lib.hid (len_any l0.length h2)
  clear hB ho0 h
  go_enter Try.func70, Try.ntmps70
  go_wp2_with fail
  refine (HL.out _).mono ?_
  rintro e w1 ⟨⟨q, rfl⟩, rfl⟩
  go_wp2_with fail
  refine (HC.out _).mono ?_
  rintro e w1 ⟨rfl, h1, h2⟩
  go_wp2_with fail
  go_returns
  exact ⟨rfl, h1, h2⟩
theorem ins_two (xs : List Int) (h : xs.length ≤ 2) : ∃ k, slices_insertionSortOrdered_int.f k xs 0 xs.length = some (srt xs) := by
  refine ⟨4, ?_⟩
  match xs, h with
  | [], _ => simp [slices_insertionSortOrdered_int.f, slices_insertionSortOrdered_int.l0, srt, wrap64]
  | [a], _ => simp [slices_insertionSortOrdered_int.f, slices_insertionSortOrdered_int.l0, srt, wrap64]
  | [a, b], _ =>
    by_cases hab : b < a
    · have : ¬ a ≤ b := by omega
      simp [slices_insertionSortOrdered_int.f, slices_insertionSortOrdered_int.l0, slices_insertionSortOrdered_int.l1, srt, wrap64, cmp_Less_int.f, cmp_isNaN_int.f, rd, hab, this]
    · have : a ≤ b := by omega
      simp [slices_insertionSortOrdered_int.f, slices_insertionSortOrdered_int.l0, slices_insertionSortOrdered_int.l1, srt, wrap64, cmp_Less_int.f, cmp_isNaN_int.f, rd, hab, this]
set_option maxRecDepth 100000 in
set_option maxHeartbeats 1000000 in
theorem sorted_any (Bs : Nat) (A : Option Addr) (c : Nat) (xs : List Int) (hm : xs.length ≤ 2) (w : World) (hBs : Bs < w.heap.size) (fs : w.cell? ⟨Bs, 0, none⟩ = some (.slice A xs.length c)) (hr : Kd.C (Kd.int .i64) w A xs.length xs) :
    Calls Try.prog 51 #[.func (.func 71) #[] #[.pointer (some ⟨Bs, 0, none⟩)]] w fun e w' =>
      ∃ v, e = .returned v ∧ Kd.R (Kd.int .i64) 3 w' w.heap.size (fun _ => True) v (srt xs) ∧ Below w.heap.size w w' := by
  obtain ⟨k, hk⟩ := ins_two xs hm
  have HK := Lib.hid hk
  clear hk
  go_enter Try.func51, Try.ntmps51
  go_wp2_with fail
  refine (Go.Proofs.Ytodbmgafejclmaa.So.collect_any Bs A c xs (by omega) w hBs fs hr).mono ?_
  rintro e w1 ⟨v, rfl, hown, hb⟩
  have hR : Kd.R (Kd.int .i64) 3 w1 w.heap.size (fun _ => True) v xs := Kd.R_of_own (by unfold encs; exact hown) (fun _ _ => trivial)
  obtain ⟨A1, c1, rfl⟩ := Kd.R_slice hR
  have HS := Lib.hid (sort_any k (fun _ => True) A1 c1 xs (srt xs) w w1 hb hR hm HK.out)
  clear hown hR
  go_wp2_with fail
  refine HS.out.mono ?_
  rintro e w2 ⟨rfl, h1, h2⟩
  have H1 := Lib.hid h1
  clear h1
  go_wp2_with fail
  go_ret
  exact ⟨_, rfl, Kd.R_mono H1.out (fun _ _ => trivial), h2⟩
end Go.Proofs.Ytodbmgafejclmaa.Sr
namespace Go.Proofs.Ytodbmgafejclmaa.Fw
open Go.RowKit Go.Proofs.YtodbmgafejclmaaW.PrintWords
open Go.Proofs.Ytodbmgafejclmaa.PRq Go.Proofs.Ytodbmgafejclmaa.Fld Go.Proofs.Ytodbmgafejclmaa.Pl Go.Proofs.Ytodbmgafejclmaa.Ot Go.Proofs.Ytodbmgafejclmaa.Tw Go.Proofs.Ytodbmgafejclmaa.Kp Go.Proofs.Ytodbmgafejclmaa.Ow Go.Proofs.Ytodbmgafejclmaa.Sr
set_option linter.unusedSimpArgs false
set_option linter.unusedVariables false
theorem sums_any (A : Option Addr) (m c n : Nat) (L : List (List Int)) (w : World) (hm : m = L.length) (hr : Kd.C (Kd.slice 5 (Kd.int .u8)) w A m L) (hc : m ≤ c) (hg : GoodR n L) (h254 : L.length ≤ 254) (hn : n ≤ 1000000) :
    Calls Try.prog 53 #[.slice A m c, .int .i64 (n : Int)] w fun e w' => ∃ v0 v1, e = .returned (.tuple #[v0, v1]) ∧ BR w' w.heap.size v0 (sumP L n) ∧ BR w' w.heap.size v1 (sumQ L n) ∧ (∀ k, v0.ownBlock = some k → v1.ownBlock ≠ some k) ∧ Below w.heap.size w w' := by
  subst hm
  obtain ⟨k, hk⟩ := (sums_ev L n (fun r h => (hg r h).1) (fun r h => (hg r h).2) h254 (by omega)).rounds
  refine (rs_sums.calls k A c L n _ _ w hr hc hk).mono ?_
  rintro e w' ⟨v0, v1, rfl, h0, h1, hb⟩
  exact ⟨v0, v1, rfl, BR.of h0, BR.of h1, fun k e1 e2 => h0.1 k e1 e2.symm, hb⟩
theorem may_facts {l : List (List Int)} {lost : List Int} (h : mayB l lost = true) : 4 ≤ l.length ∧ l.length ≤ 16 ∧ lost.length ≤ 2 ∧ (∀ i ∈ lost, 0 ≤ i ∧ i < l.length) ∧ lost.Nodup ∧ alikeR (kept l lost) = true := by
  simp only [mayB, Bool.and_eq_true, decide_eq_true_eq, List.all_eq_true] at h
  obtain ⟨⟨⟨⟨⟨h1, h2⟩, h3⟩, h4⟩, h5⟩, h6⟩ := h
  exact ⟨h1, h2, h3, h4, h5, h6⟩
theorem alike_len {L : List (List Int)} (h : alikeR L = true) : ∀ r ∈ L, r.length = lenR L := by
  cases L with
  | nil => intro r hr; cases hr
  | cons q L =>
    intro r hr
    simp only [alikeR, List.all_eq_true, beq_iff_eq] at h
    rcases List.mem_cons.1 hr with rfl | hr
    · rfl
    · exact h r hr
theorem kept_len {l : List (List Int)} {lost : List Int} (h : alikeR (kept l lost) = true) (i : Nat) (hi : i < l.length) (hc : lost.contains (i : Int) = false) : (row l i).length = lenR (kept l lost) := by
  refine alike_len h _ ?_
  rw [kept_idx]
  refine List.mem_map.2 ⟨i, ?_, rfl⟩
  unfold idx
  rw [List.mem_filter]
  exact ⟨by simpa using hi, by rw [hc]; rfl⟩
theorem lenR_le {l : List (List Int)} {lost : List Int} (h : ∀ r ∈ l, r.length ≤ 1000000) : lenR (kept l lost) ≤ 1000000 := by
  rw [kept_idx]
  cases hi : idx l.length lost with
  | nil => simp [lenR]
  | cons i L =>
    have him : i ∈ idx l.length lost := by rw [hi]; simp
    have := idx_lt him
    simp only [List.map_cons, lenR]
    rw [row_lt this]
    exact h _ (List.getElem_mem this)
theorem own_good {l : List (List Int)} {lost : List Int} {n : Nat} (hb : ∀ r ∈ l, Bytes r) (hk : ∀ i : Nat, i < l.length → lost.contains (i : Int) = false → (row l i).length = n) : GoodR n (ownR l lost n) := by
  intro r hr
  obtain ⟨i, hi, rfl⟩ := List.getElem_of_mem hr
  have hil : i < l.length := by simpa [ownR] using hi
  simp only [ownR, List.getElem_mapIdx]
  split
  · refine ⟨by simp, fun x hx => ?_⟩
    rw [List.mem_replicate] at hx
    rw [hx.2]; exact byt_zero
  · rename_i hc
    have := hk i hil (Bool.eq_false_iff.2 hc)
    rw [row_lt hil] at this
    exact ⟨this, hb _ (List.getElem_mem hil)⟩
theorem own_len (l : List (List Int)) (lost : List Int) (n : Nat) : (ownR l lost n).length = l.length := by simp [ownR]
theorem gone_of {lost : List Int} {N : Nat} (h2 : lost.length ≤ 2) (hin : ∀ i ∈ lost, 0 ≤ i ∧ i < N) (hnd : lost.Nodup) :
    srt lost = [] ∨ (∃ a : Nat, srt lost = [(a : Int)] ∧ a < N) ∨ ∃ a b : Nat, srt lost = [(a : Int), (b : Int)] ∧ a < b ∧ b < N := by
  match lost, h2, hin, hnd with
  | [], _, _, _ => exact .inl rfl
  | [x], _, hin, _ =>
    have := hin x (by simp)
    exact .inr (.inl ⟨x.toNat, by simp [srt]; omega, by omega⟩)
  | [x, y], _, hin, hnd =>
    have h1 := hin x (by simp)
    have h2 := hin y (by simp)
    have h3 : x ≠ y := by simpa using hnd
    refine .inr (.inr ?_)
    by_cases h : x ≤ y
    · exact ⟨x.toNat, y.toNat, by simp [srt, h]; omega, by omega, by omega⟩
    · exact ⟨y.toNat, x.toNat, by simp [srt, h]; omega, by omega, by omega⟩
theorem gone_all {lost : List Int} {N : Nat} (h2 : lost.length ≤ 2) (hin : ∀ i ∈ lost, 0 ≤ i ∧ i < N) (hnd : lost.Nodup) : (srt lost).length ≤ 2 ∧ ∀ j (h : j < (srt lost).length), ∃ i : Nat, (srt lost)[j] = (i : Int) ∧ i < N := by
  rcases gone_of h2 hin hnd with h | ⟨a, h, ha⟩ | ⟨a, b, h, ha, hb⟩
  · rw [h]; exact ⟨by simp, fun j hj => absurd hj (by simp)⟩
  · simp only [h]
    refine ⟨by simp, fun j hj => ?_⟩
    obtain rfl : j = 0 := by simp at hj; omega
    exact ⟨a, rfl, ha⟩
  · simp only [h]
    refine ⟨by simp, fun j hj => ?_⟩
    have : j = 0 ∨ j = 1 := by simp at hj; omega
    rcases this with rfl | rfl
    · exact ⟨a, rfl, by omega⟩
    · exact ⟨b, rfl, hb⟩
theorem good_take {n m : Nat} {rows : List (List Int)} (h : GoodR n rows) : GoodR n (rows.take m) := fun r hr => h r (List.mem_of_mem_take hr)
theorem two_len (rows : List (List Int)) (a b : Nat) (p q : List Int) : (twoR rows a b p q).length = rows.length := by unfold twoR; simp
theorem good_two {n a b : Nat} {rows : List (List Int)} {p q : List Int} (h : GoodR n rows) (ha : a < rows.length) (hb : b < rows.length) (hp : p.length = n ∧ Bytes p) (hq : q.length = n ∧ Bytes q) : GoodR n (twoR rows a b p q) := by
  have e1 := byt_inv (byt_xor (byt_exp a) (byt_exp b))
  have e2 : Byt (mulI (invI (xorI (expI a) (expI b))) (expI b)) := byt_mul (byt_exp b)
  have e3 : Byt 1 := ⟨by omega, by omega⟩
  have r1 := good_add (good_add (Tw.good_row h ha) hq.2 e1) hp.2 e2
  exact good_set (good_set h r1) (good_add (good_add (Tw.good_row h hb) hp.2 e3) r1.2 e3)
/-- a row of parity, added to -/
theorem fs_addP {w0 w w1 : World} {G : Nat} {hs : List Value} {rows : List (List Int)} {vp vq vg : Value} {p p' q gone : List Int} (F : FS w0 w G hs rows vp p vq q vg gone) (hpq : ∀ k, vp.ownBlock = some k → vq.ownBlock ≠ some k)
    (hB : Below w0.heap.size w0 w1) (hk : Kept w w1 (fun k => some k = vp.ownBlock)) (hp : BR w1 w0.heap.size vp p') : FS w0 w1 G hs rows vp p' vq q vg gone := by
  have hrow : ∀ (i : Nat) (h : Value) (r : List Int), hs[i]? = some h → rows[i]? = some r → BR w1 w0.heap.size h r := fun i h r h1 h2 => (F.O.row i h r h1 h2).kept hk (fun k e => F.P.2 i h k h1 e)
  refine ⟨hB, ⟨own_move F.O.head (fun k e => hk.2 k (own_lt F.O.head k e) (fun h2 => ?_)), hrow, F.O.apart, F.O.max⟩, ⟨hp, F.P.2⟩, ⟨F.Q.1.kept hk (fun k e h2 => hpq k h2 e), F.Q.2⟩, own_move F.g (fun k e => hk.2 k (own_lt F.g k e) (fun h2 => ?_))⟩
  · rcases own_type_ne F.P.1 F.O.head (by decide) with h1 | h1
    · rw [h1] at h2; cases h2
    · exact h1 (by rw [← h2, e])
  · rcases own_type_ne F.P.1 F.g (by decide) with h1 | h1
    · rw [h1] at h2; cases h2
    · exact h1 (by rw [← h2, e])
theorem fs_addQ {w0 w w1 : World} {G : Nat} {hs : List Value} {rows : List (List Int)} {vp vq vg : Value} {p q' q gone : List Int} (F : FS w0 w G hs rows vp p vq q vg gone) (hpq : ∀ k, vp.ownBlock = some k → vq.ownBlock ≠ some k)
    (hB : Below w0.heap.size w0 w1) (hk : Kept w w1 (fun k => some k = vq.ownBlock)) (hq : BR w1 w0.heap.size vq q') : FS w0 w1 G hs rows vp p vq q' vg gone := by
  have F' : FS w0 w G hs rows vq q vp p vg gone := ⟨F.B, F.O, F.Q, F.P, F.g⟩
  have F2 := fs_addP F' (fun k e1 e2 => hpq k e2 e1) hB hk hq
  exact ⟨F2.B, F2.O, F2.Q, F2.P, F2.g⟩
theorem wp_scope_fwd {P : Program} {a : Act} {w : World} {Q : Exit → Act → World → Prop} {c rest : Code} (l : Nat) (J : Act → World → Prop) (hf : findLabel c l = some (Code.skip.seq rest)) (tail : ∀ a w, J a w → rest.wp P (Exit.noGoto Q) a w)
    (first : (∀ a w, J a w → rest.wp P (Exit.noGoto Q) a w) → c.wp P (Exit.jump l J Q) a w) : (Code.scope c).wp P Q a w :=
  wp_scope_jumps l J (fun _ _ => 0) hf (first tail) (fun a w hJ => wp_seq (wp_skip (Code.wp_mono (fun e a w h => by cases e <;> first | exact h | exact (h : False).elim) (tail a w hJ))))
/-- what is so where the parities are made again -/
structure JF (w0 w : World) (G : Nat) (hs : List Value) (rows : List (List Int)) (vg : Value) (gone : List Int) (todo : List Nat) (n d : Nat) (want : List (List Int)) : Prop where
  B : Below w0.heap.size w0 w
  O : Out w w0.heap.size G hs rows
  g : w.ownsRow w0.heap.size 3 1 vg gone.length (encs (Value.int .i64) gone)
  good : GoodR n rows
  len : rows.length = d + 2
  par : parR rows todo d n = want
theorem gone_cell {w : World} {base cg : Nat} {Ag : Option Addr} {gone : List Int} (h : w.ownsRow base 3 1 (.slice Ag gone.length cg) gone.length (encs (Value.int .i64) gone)) (j : Nat) (hj : j < gone.length) (x : Int) (he : gone[j] = x) : ∃ g, Ag = some ⟨g, 0, none⟩ ∧ w.cell? ⟨g, j, none⟩ = some (.int .i64 x) := by
  rcases h.2 with ⟨h1, h2⟩ | ⟨g, cap, cur, h1, _⟩
  · omega
  · cases h1
    refine ⟨g, rfl, ?_⟩
    rw [h.cellAt j (by omega)]
    simp [encs, hj, he]
theorem gone_at {w : World} {base cg g : Nat} {gone : List Int} (h : w.ownsRow base 3 1 (.slice (some ⟨g, 0, none⟩) gone.length cg) gone.length (encs (Value.int .i64) gone)) (j : Nat) (hj : j < gone.length) (x : Int) (he : gone[j] = x) : w.cell? ⟨g, j, none⟩ = some (.int .i64 x) := by
  obtain ⟨g', e, hx⟩ := gone_cell h j hj x he
  cases e
  exact hx
theorem JF.below {w0 w w1 : World} {G : Nat} {hs : List Value} {rows : List (List Int)} {vg : Value} {gone : List Int} {todo : List Nat} {n d : Nat} {want : List (List Int)} (J : JF w0 w G hs rows vg gone todo n d want) (hb : Below w.heap.size w w1) : JF w0 w1 G hs rows vg gone todo n d want :=
  ⟨J.B.trans (hb.mono J.B.size), J.O.below hb, pw_own_below J.g hb, J.good, J.len, J.par⟩
theorem JF.set {w0 w : World} {G i : Nat} {hs : List Value} {rows : List (List Int)} {v vg : Value} {gone : List Int} {todo : List Nat} {n d : Nat} {want : List (List Int)} {r : List Int} (J : JF w0 w G hs rows vg gone (i :: todo) n d want) (hid : d ≤ i) (hi : i < d + 2) (hv : BR w w0.heap.size v r)
    (hne : ∀ (j : Nat) (g : Value) (k : Nat), hs[j]? = some g → g.ownBlock = some k → v.ownBlock ≠ some k) (hr : r = if i = d then sumP (rows.take d) n else sumQ (rows.take d) n) : JF w0 (w.setCell ⟨G, i, none⟩ v) G (hs.set i v) (rows.set i r) vg gone todo n d want := by
  have hG := J.O.baseG
  have hgd : GoodR n (rows.take d) := good_take J.good
  refine ⟨J.B.setCell (p := ⟨G, i, none⟩) hG v, J.O.set (by rw [J.len]; exact hi) hv hne, own_move J.g (fun k e => Below.heap_setCell w ⟨G, i, none⟩ v k (fun e2 => ?_)), good_set J.good ?_, by rw [List.length_set]; exact J.len, ?_⟩
  · rcases own_type_ne J.g J.O.head (by decide) with h1 | h1
    · rw [h1] at e; cases e
    · exact h1 (by rw [e, e2]; rfl)
  · rw [hr]
    split
    · exact ⟨sumP_len _ _, bytes_sumP _ _ (fun q hq => (hgd q hq).2)⟩
    · exact ⟨sumQ_len _ _, bytes_sumQ _ _ (fun q hq => (hgd q hq).2)⟩
  · have := J.par
    rw [hr]
    simpa [parR, hid] using this
def JJ (w0 : World) (A A' : Option Addr) (c c' : Nat) (L : List (List Int)) (lost gone : List Int) (n d : Nat) (want : List (List Int)) (a : Act) (w : World) : Prop :=
  ∃ (G : Nat) (hs : List Value) (rows : List (List Int)) (vg : Value) (u : Nat → Value), a = ⟨#[.slice A L.length c, .slice A' lost.length c', u 2, u 3, u 4, u 5, .int .i64 (n : Int), u 7, .slice (some ⟨G, 0, none⟩) L.length L.length, .int .i64 (d : Int), vg, u 11, u 12, u 13, u 14, u 15, u 16, u 17, u 18, u 19, u 20, u 21, u 22, u 23, u 24, u 25, u 26, u 27, u 28, u 29, u 30, u 31, u 32, u 33, u 34, u 35, u 36, u 37, u 38, u 39, u 40, u 41, u 42, u 43, u 44, u 45, u 46, u 47, u 48, u 49, u 50, u 51, u 52, u 53, u 54, u 55, u 56, u 57, u 58, u 59, u 60, u 61, u 62, u 63, u 64, u 65, u 66, u 67, u 68, u 69, u 70, u 71, u 72, u 73, u 74, u 75, u 76, u 77, u 78, u 79, u 80, u 81, u 82, u 83, u 84, u 85, u 86, u 87, u 88, u 89, u 90, u 91, u 92, u 93, u 94, u 95, u 96, u 97, u 98, u 99, u 100, u 101, u 102, u 103, u 104, u 105, u 106, u 107, u 108, u 109, u 110, u 111, u 112, u 113, u 114, u 115, u 116, u 117, u 118, u 119, u 120, u 121, u 122, u 123, u 124, u 125, u 126, u 127, u 128, u 129, u 130, u 131, u 132, u 133, u 134, u 135, u 136, u 137, u 138, u 139, u 140, u 141, u 142, u 143, u 144, u 145, u 146, u 147, u 148], []⟩ ∧ Hid (JF w0 w G hs rows vg gone (gone.map Int.toNat) n d want)
theorem JJ_of {w0 w : World} {A A' : Option Addr} {c c' : Nat} {L : List (List Int)} {lost gone : List Int} {n d : Nat} {want : List (List Int)} {a : Act} {G : Nat} {hs : List Value} {rows : List (List Int)} {vg : Value}
    (h : a = ⟨#[.slice A L.length c, .slice A' lost.length c', a.tmps.getD 2 undef, a.tmps.getD 3 undef, a.tmps.getD 4 undef, a.tmps.getD 5 undef, .int .i64 (n : Int), a.tmps.getD 7 undef, .slice (some ⟨G, 0, none⟩) L.length L.length, .int .i64 (d : Int), vg, a.tmps.getD 11 undef, a.tmps.getD 12 undef, a.tmps.getD 13 undef, a.tmps.getD 14 undef, a.tmps.getD 15 undef, a.tmps.getD 16 undef, a.tmps.getD 17 undef, a.tmps.getD 18 undef, a.tmps.getD 19 undef, a.tmps.getD 20 undef, a.tmps.getD 21 undef, a.tmps.getD 22 undef, a.tmps.getD 23 undef, a.tmps.getD 24 undef, a.tmps.getD 25 undef, a.tmps.getD 26 undef, a.tmps.getD 27 undef, a.tmps.getD 28 undef, a.tmps.getD 29 undef, a.tmps.getD 30 undef, a.tmps.getD 31 undef, a.tmps.getD 32 undef, a.tmps.getD 33 undef, a.tmps.getD 34 undef, a.tmps.getD 35 undef, a.tmps.getD 36 undef, a.tmps.getD 37 undef, a.tmps.getD 38 undef, a.tmps.getD 39 undef, a.tmps.getD 40 undef, a.tmps.getD 41 undef, a.tmps.getD 42 undef, a.tmps.getD 43 undef, a.tmps.getD 44 undef, a.tmps.getD 45 undef, a.tmps.getD 46 undef, a.tmps.getD 47 undef, a.tmps.getD 48 undef, a.tmps.getD 49 undef, a.tmps.getD 50 undef, a.tmps.getD 51 undef, a.tmps.getD 52 undef, a.tmps.getD 53 undef, a.tmps.getD 54 undef, a.tmps.getD 55 undef, a.tmps.getD 56 undef, a.tmps.getD 57 undef, a.tmps.getD 58 undef, a.tmps.getD 59 undef, a.tmps.getD 60 undef, a.tmps.getD 61 undef, a.tmps.getD 62 undef, a.tmps.getD 63 undef, a.tmps.getD 64 undef, a.tmps.getD 65 undef, a.tmps.getD 66 undef, a.tmps.getD 67 undef, a.tmps.getD 68 undef, a.tmps.getD 69 undef, a.tmps.getD 70 undef, a.tmps.getD 71 undef, a.tmps.getD 72 undef, a.tmps.getD 73 undef, a.tmps.getD 74 undef, a.tmps.getD 75 undef, a.tmps.getD 76 undef, a.tmps.getD 77 undef, a.tmps.getD 78 undef, a.tmps.getD 79 undef, a.tmps.getD 80 undef, a.tmps.getD 81 undef, a.tmps.getD 82 undef, a.tmps.getD 83 undef, a.tmps.getD 84 undef, a.tmps.getD 85 undef, a.tmps.getD 86 undef, a.tmps.getD 87 undef, a.tmps.getD 88 undef, a.tmps.getD 89 undef, a.tmps.getD 90 undef, a.tmps.getD 91 undef, a.tmps.getD 92 undef, a.tmps.getD 93 undef, a.tmps.getD 94 undef, a.tmps.getD 95 undef, a.tmps.getD 96 undef, a.tmps.getD 97 undef, a.tmps.getD 98 undef, a.tmps.getD 99 undef, a.tmps.getD 100 undef, a.tmps.getD 101 undef, a.tmps.getD 102 undef, a.tmps.getD 103 undef, a.tmps.getD 104 undef, a.tmps.getD 105 undef, a.tmps.getD 106 undef, a.tmps.getD 107 undef, a.tmps.getD 108 undef, a.tmps.getD 109 undef, a.tmps.getD 110 undef, a.tmps.getD 111 undef, a.tmps.getD 112 undef, a.tmps.getD 113 undef, a.tmps.getD 114 undef, a.tmps.getD 115 undef, a.tmps.getD 116 undef, a.tmps.getD 117 undef, a.tmps.getD 118 undef, a.tmps.getD 119 undef, a.tmps.getD 120 undef, a.tmps.getD 121 undef, a.tmps.getD 122 undef, a.tmps.getD 123 undef, a.tmps.getD 124 undef, a.tmps.getD 125 undef, a.tmps.getD 126 undef, a.tmps.getD 127 undef, a.tmps.getD 128 undef, a.tmps.getD 129 undef, a.tmps.getD 130 undef, a.tmps.getD 131 undef, a.tmps.getD 132 undef, a.tmps.getD 133 undef, a.tmps.getD 134 undef, a.tmps.getD 135 undef, a.tmps.getD 136 undef, a.tmps.getD 137 undef, a.tmps.getD 138 undef, a.tmps.getD 139 undef, a.tmps.getD 140 undef, a.tmps.getD 141 undef, a.tmps.getD 142 undef, a.tmps.getD 143 undef, a.tmps.getD 144 undef, a.tmps.getD 145 undef, a.tmps.getD 146 undef, a.tmps.getD 147 undef, a.tmps.getD 148 undef], []⟩) (hJ : JF w0 w G hs rows vg gone (gone.map Int.toNat) n d want) : JJ w0 A A' c c' L lost gone n d want a w := ⟨G, hs, rows, vg, fun k => a.tmps.getD k undef, h, Lib.hid hJ⟩
theorem JF_of {w0 w : World} {G n d : Nat} {hs : List Value} {rows want : List (List Int)} {vp vq vg : Value} {p q gone : List Int} (F : FS w0 w G hs rows vp p vq q vg gone) (hg : GoodR n rows) (hl : rows.length = d + 2) (hp : parR rows (gone.map Int.toNat) d n = want) : JF w0 w G hs rows vg gone (gone.map Int.toNat) n d want := ⟨F.B, F.O, F.g, hg, hl, hp⟩
set_option maxRecDepth 100000 in
set_option maxHeartbeats 4000000 in
theorem fix_true (A A' : Option Addr) (c c' : Nat) (L : List (List Int)) (lost : List Int) (w : World) (hm : L.length ≤ 1000000) (hm' : lost.length ≤ 1000000) (hr : Kd.C (Kd.slice 5 (Kd.int .u8)) w A L.length L) (ho : Kd.C (Kd.int .i64) w A' lost.length lost) (hc : L.length ≤ c) (hc' : lost.length ≤ c')
    (hb : ∀ r ∈ L, Bytes r) (hl : ∀ r ∈ L, r.length ≤ 1000000) (hmay : mayB L lost = true) :
    Calls Try.prog 45 #[.slice A L.length c, .slice A' lost.length c'] w fun e w' => ∃ v, e = .returned (.tuple #[v, .bool true]) ∧ Kd.N (Kd.slice 5 (Kd.int .u8)) 24 w' w.heap.size (fun k => w.heap.size ≤ k) v (fixR L lost) ∧ Below w.heap.size w w' := by
  obtain ⟨m1, m2, m3, m4, m5, m6⟩ := may_facts hmay
  have HM := Lib.hid (may_any A A' c c' L lost w hm hm' hr ho hc hc')
  rw [hmay] at HM
  have hnl := lenR_le (lost := lost) hl
  have HK := Lib.hid (kept_len m6)
  obtain ⟨n, hn⟩ : ∃ n, n = lenR (kept L lost) := ⟨_, rfl⟩
  rw [← hn] at HM HK hnl
  have HN := Lib.hid hn
  have GO := Lib.hid (gone_of m3 m4 m5)
  obtain ⟨gone, hgone⟩ : ∃ g, srt lost = g := ⟨_, rfl⟩
  have GA : Hid (gone.length ≤ 2 ∧ ∀ j (h : j < gone.length), ∃ i : Nat, gone[j] = (i : Int) ∧ i < L.length) := by
    subst hgone
    exact Lib.hid (gone_all m3 m4 m5)
  rw [hgone] at GO
  have HGone := Lib.hid hgone
  clear hgone
  have HR := Lib.hid hr
  have HO := Lib.hid ho
  have HG := Lib.hid (own_good hb HK.out)
  clear hr ho hn m4 m5 m6 hmay hb hl
  obtain ⟨d, hd⟩ : ∃ d : Nat, L.length = d + 2 := ⟨L.length - 2, by omega⟩
  have hd1 : (L.length : Int) - 2 = (d : Int) := by omega
  have HD := Lib.hid hd
  clear hd
  go_enter Try.func45, Try.ntmps45
  go_wp2
  refine wp_scope_fwd 0 (JJ w A A' c c' L lost gone n d (fixR L lost)) rfl ?tail ?first
  case tail =>
    clear HM GO HG
    rintro a w1 ⟨G, hs, rows, vg, u, rfl, HJ⟩
    obtain ⟨Ag, cg, rfl⟩ := own_slice HJ.out.g
    go_wp2_with fail
    go_loopw [121] (fun i wr => ∃ (j : Nat) (hs' : List Value) (rows' : List (List Int)), i = .int .i64 j ∧ j ≤ gone.length ∧ Hid (JF w wr G hs' rows' (.slice Ag gone.length cg) gone ((gone.drop j).map Int.toNat) n d (fixR L lost))) (fun i _ => gone.length - (intOf i).toNat)
    case atStart => exact ⟨0, hs, rows, rfl, Nat.zero_le _, by simpa using HJ⟩
    case round =>
      clear HJ
      obtain ⟨j, hs', rows', rfl, hj, HJ⟩ := hrel
      have hgl : gone.length ≤ 2 := GA.out.1
      have hj1 : wrap64 ((j : Int) + 1) = ((j + 1 : Nat) : Int) := by rw [w64 (by omega) (by omega)]; rfl
      by_cases hjl : j < gone.length
      · obtain ⟨i, hgi, hiL⟩ := GA.out.2 j hjl
        obtain ⟨g, e, hx⟩ := gone_cell HJ.out.g j hjl _ hgi
        subst e
        have HDR := Lib.hid (show (gone.drop j).map Int.toNat = i :: (gone.drop (j + 1)).map Int.toNat from by rw [List.drop_eq_getElem_cons hjl, List.map_cons, hgi]; rfl)
        rw [HDR.out] at HJ
        clear hgi
        by_cases hid : d ≤ i
        · have hrl := HJ.out.len
          have hcs := HD.out
          have HS := Lib.hid (sums_any (some ⟨G, 0, none⟩) d L.length n (rows'.take d) wr (by rw [List.length_take]; omega) (by have := HJ.out.O.C (m := d) (by omega); rwa [List.length_take, Nat.min_eq_left (by omega)] at this) (by omega) (good_take HJ.out.good) (by rw [List.length_take]; omega) hnl)
          have hdL : d ≤ L.length := by omega
          clear hrl hcs
          go_wp2_with fail
          refine HS.out.mono ?_
          rintro e w2 ⟨x, y, rfl, hx2, hy2, hxy, hb2⟩
          have hGB := HJ.out.B.size
          have HX2 := Lib.hid (show BR w2 w.heap.size x (sumP (rows'.take d) n) from own_weaken hx2 hGB)
          have HY2 := Lib.hid (show BR w2 w.heap.size y (sumQ (rows'.take d) n) from own_weaken hy2 hGB)
          have HXN := Lib.hid (fun (q : Nat) (h : Value) (k : Nat) (hq : hs'[q]? = some h) (hk : h.ownBlock = some k) => (show x.ownBlock ≠ some k from fun h3 => by
            have h4 := (List.getElem?_eq_some_iff.1 hq).1
            have h5 := HJ.out.O.len
            have h6 := own_lt (HJ.out.O.row q h _ hq (List.getElem?_eq_getElem (by omega))) k hk
            have h7 := own_base hx2 k h3
            omega))
          have HYN := Lib.hid (fun (q : Nat) (h : Value) (k : Nat) (hq : hs'[q]? = some h) (hk : h.ownBlock = some k) => (show y.ownBlock ≠ some k from fun h3 => by
            have h4 := (List.getElem?_eq_some_iff.1 hq).1
            have h5 := HJ.out.O.len
            have h6 := own_lt (HJ.out.O.row q h _ hq (List.getElem?_eq_getElem (by omega))) k hk
            have h7 := own_base hy2 k h3
            omega))
          have HJ2 := Lib.hid (HJ.out.below hb2)
          obtain ⟨hz, hzi⟩ := HJ2.out.O.get (i := i) (by have := HJ2.out.len; have := HD.out; omega)
          obtain ⟨Ax, cx, ex, _⟩ := HX2.out.slice
          obtain ⟨Ay, cy, ey, _⟩ := HY2.out.slice
          rw [sumP_len] at ex
          rw [sumQ_len] at ey
          subst ex ey
          have HA := Lib.hid (HJ2.out.below (below_alloc (Below.refl _ w2) (.cells #[.slice Ax n cx, .slice Ay n cy] 24)))
          have HXA := Lib.hid (HX2.out.below (below_alloc (Below.refl _ w2) (.cells #[.slice Ax n cx, .slice Ay n cy] 24)))
          have HYA := Lib.hid (HY2.out.below (below_alloc (Below.refl _ w2) (.cells #[.slice Ax n cx, .slice Ay n cy] 24)))
          have hcz := HA.out.O.cell hzi
          have hfz := HA.out.O.frozen i
          clear hx2 hy2 hxy hb2 HJ HX2 HY2 HJ2 hGB
          have hi2 : i = d ∨ i = d + 1 := by have := HD.out; omega
          rcases hi2 with rfl | rfl
          · go_wp2_with fail
            go_roundw
            case rel => exact ⟨j + 1, _, _, by simp, by omega, Lib.hid (HA.out.set (by omega) (by omega) HXA.out HXN.out (by rw [if_pos rfl]))⟩
            case measure => simp [intOf]; omega
          · go_wp2_with fail
            go_roundw
            case rel => exact ⟨j + 1, _, _, by simp, by omega, Lib.hid (HA.out.set (by omega) (by omega) HYA.out HYN.out (by rw [if_neg (by omega)]))⟩
            case measure => simp [intOf]; omega
        · go_wp2_with fail
          go_roundw
          case rel => exact ⟨j + 1, hs', rows', by simp, by omega, Lib.hid ⟨HJ.out.B, HJ.out.O, HJ.out.g, HJ.out.good, HJ.out.len, by have := HJ.out.par; simpa [parR, hid] using this⟩⟩
          case measure => simp [intOf]; omega
      · obtain rfl : j = gone.length := by omega
        have hpar := HJ.out.par
        rw [List.drop_length] at hpar
        have HPAR := Lib.hid (show rows' = fixR L lost from hpar)
        clear hpar
        go_wp2_with fail
        rw [Exit.noGoto_ret]
        refine bodyPost_ret (results_tmp2 rfl _ _ _) rfl ⟨_, rfl, ?_, HJ.out.B⟩
        have hN := HJ.out.O.N
        rw [HJ.out.len, HPAR.out] at hN
        rw [HD.out]
        exact hN
  case first =>
    intro ht
    have HT := Lib.hid ht
    clear ht
    go_wp2_with fail
    refine HM.out.mono ?_
    rintro e w1 ⟨r, rfl, hrn, hb1⟩
    obtain rfl : r = (n : Int) := hrn trivial
    have HB1 := Lib.hid hb1
    clear hrn hb1
    go_wp2_with fail
    refine (own_any A A' c c' n L lost w1 hm hm' hnl (Kd.C_below HR.out HB1.out) (Kd.C_below HO.out HB1.out) hc' HK.out).mono ?_
    rintro e w2 ⟨G, hs, rfl, O2, hb2⟩
    have HO2 := Lib.hid O2
    have HB2 := Lib.hid (HB1.out.trans (hb2.mono HB1.out.size))
    have HB12 := Lib.hid (HB1.out.size)
    clear O2 hb2
    go_wp2_with fail
    refine (Go.Proofs.Ytodbmgafejclmaa.So.values_any A' lost.length c' w2).mono ?_
    rintro e w3 ⟨rfl, hw3⟩
    have HB3 := Lib.hid (show Below w2.heap.size w2 w3 from by rw [hw3]; exact below_alloc (Below.refl _ _) _)
    have hsz3 : w2.heap.size < w3.heap.size := by rw [hw3]; simp
    have fs3 : w3.cell? ⟨w2.heap.size, 0, none⟩ = some (.slice A' lost.length c') := by rw [hw3]; have := cell_one_new w2 (.slice A' lost.length c') 23 0 _ rfl; rwa [add_plain] at this
    have HS3 := Lib.hid (sorted_any w2.heap.size A' c' lost m3 w3 hsz3 fs3 (Kd.C_below HO.out (HB2.out.trans (HB3.out.mono HB2.out.size))))
    clear hw3 hsz3 fs3
    go_wp2_with fail
    refine HS3.out.mono ?_
    rintro e w4 ⟨vg, rfl, hg4, hb4⟩
    have HO4 := Lib.hid ((HO2.out.below HB3.out).below hb4)
    have HB4 := Lib.hid ((HB2.out.trans (HB3.out.mono HB2.out.size)).trans (hb4.mono ((HB2.out.trans (HB3.out.mono HB2.out.size)).size)))
    have HG4 := Lib.hid (show w4.ownsRow w.heap.size 3 1 vg gone.length (encs (Value.int .i64) gone) from by rw [← HGone.out]; exact own_weaken (Kd.own_of_R hg4) (Nat.le_trans HB2.out.size HB3.out.size))
    have hge4 : w.heap.size ≤ w4.heap.size := HB4.out.size
    clear HB3 HS3 HO2 HB2 hg4 hb4
    have hdL : d ≤ L.length := by omega
    have HOw := Lib.hid (show Out w4 w.heap.size G hs (ownR L lost n) from ⟨own_weaken HO4.out.head HB12.out, fun i h r h1 h2 => own_weaken (HO4.out.row i h r h1 h2) HB12.out, HO4.out.apart, HO4.out.max⟩)
    clear HO4
    have hol := own_len L lost n
    have HS := Lib.hid (sums_any (some ⟨G, 0, none⟩) d L.length n ((ownR L lost n).take d) w4 (by rw [List.length_take]; omega) (by have := HOw.out.C (m := d) (by omega); rwa [List.length_take, Nat.min_eq_left (by omega)] at this) (by omega) (good_take HG.out) (by rw [List.length_take]; omega) hnl)
    clear hol
    go_wp2_with fail
    refine HS.out.mono ?_
    rintro e w5 ⟨vp, vq, rfl, hp5, hq5, hpq, hb5⟩
    have HPQ := Lib.hid hpq
    have hbes : ∀ (v : Value) (r : List Int), BR w5 w4.heap.size v r → Beside w5 w.heap.size hs v r := fun v r hv => ⟨own_weaken hv hge4, fun j g k hj hk h3 => by
      have h4 := (List.getElem?_eq_some_iff.1 hj).1
      have h5 := HOw.out.len
      have h6 := own_lt (HOw.out.row j g _ hj (List.getElem?_eq_getElem (by omega))) k hk
      have h7 := own_base hv k h3
      omega⟩
    have F5 := Lib.hid (show FS w w5 G hs (ownR L lost n) vp (sumP ((ownR L lost n).take d) n) vq (sumQ ((ownR L lost n).take d) n) vg gone from ⟨HB4.out.trans (hb5.mono HB4.out.size), HOw.out.below hb5, hbes _ _ hp5, hbes _ _ hq5, pw_own_below HG4.out hb5⟩)
    clear hbes hp5 hq5 hpq hb5 HOw HG4 HS HB4
    obtain ⟨hD, hdi⟩ := F5.out.O.get (i := d) (by rw [own_len]; omega)
    obtain ⟨hE, hei⟩ := F5.out.O.get (i := d + 1) (by rw [own_len]; omega)
    have HDI := Lib.hid hdi
    have HEI := Lib.hid hei
    clear hdi hei
    have hdl : d < L.length := by omega
    have hel : d + 1 < L.length := by omega
    have hB1 : Byt 1 := ⟨by omega, by omega⟩
    have HBy1 := Lib.hid hB1
    clear hB1
    have hRD := Lib.hid (Tw.good_row HG.out (i := d) (by rw [own_len]; omega))
    have hRE := Lib.hid (Tw.good_row HG.out (i := d + 1) (by rw [own_len]; omega))
    have HSP := Lib.hid (show (sumP ((ownR L lost n).take d) n).length = n ∧ Bytes (sumP ((ownR L lost n).take d) n) from ⟨sumP_len _ _, bytes_sumP _ _ (fun q hq => (good_take HG.out q hq).2)⟩)
    have HSQ := Lib.hid (show (sumQ ((ownR L lost n).take d) n).length = n ∧ Bytes (sumQ ((ownR L lost n).take d) n) from ⟨sumQ_len _ _, bytes_sumQ _ _ (fun q hq => (good_take HG.out q hq).2)⟩)
    have hcd := F5.out.O.cell HDI.out
    have HrowD := Lib.hid (fun (w' : World) (hO : Out w' w.heap.size G hs (ownR L lost n)) => (show BR w' w.heap.size hD (row (ownR L lost n) d) from by rw [row_lt (by rw [own_len]; omega)]; exact hO.row d hD _ HDI.out (List.getElem?_eq_getElem _)))
    have HrowE := Lib.hid (fun (w' : World) (hO : Out w' w.heap.size G hs (ownR L lost n)) => (show BR w' w.heap.size hE (row (ownR L lost n) (d + 1)) from by rw [row_lt (by rw [own_len]; omega)]; exact hO.row (d + 1) hE _ HEI.out (List.getElem?_eq_getElem _)))
    go_wp2_with fail
    refine (add_any F5.out.B F5.out.P.1 (HrowD.out _ F5.out.O) (fun k h => F5.out.P.2 d hD k HDI.out h) (by rw [hRD.out.1, HSP.out.1]; exact Nat.le_refl _) (by rw [hRD.out.1]; exact hnl) HSP.out.2 hRD.out.2 HBy1.out).mono ?_
    rintro e w6 ⟨rfl, p6, b6, k6⟩
    have F6 := Lib.hid (fs_addP F5.out HPQ.out b6 k6 p6)
    clear p6 b6 k6 F5 hcd
    have hce := F6.out.O.cell HEI.out
    go_wp2_with fail
    refine (add_any F6.out.B F6.out.Q.1 (HrowE.out _ F6.out.O) (fun k h => F6.out.Q.2 (d + 1) hE k HEI.out h) (by rw [hRE.out.1, HSQ.out.1]; exact Nat.le_refl _) (by rw [hRE.out.1]; exact hnl) HSQ.out.2 hRE.out.2 HBy1.out).mono ?_
    rintro e w7 ⟨rfl, q7, b7, k7⟩
    have F7 := Lib.hid (fs_addQ F6.out HPQ.out b7 k7 q7)
    have HP7 := Lib.hid (show (addR (sumP ((ownR L lost n).take d) n) (row (ownR L lost n) d) 1).length = n ∧ Bytes (addR (sumP ((ownR L lost n).take d) n) (row (ownR L lost n) d) 1) from good_add HSP.out hRD.out.2 HBy1.out)
    have HQ7 := Lib.hid (show (addR (sumQ ((ownR L lost n).take d) n) (row (ownR L lost n) (d + 1)) 1).length = n ∧ Bytes (addR (sumQ ((ownR L lost n).take d) n) (row (ownR L lost n) (d + 1)) 1) from good_add HSQ.out hRE.out.2 HBy1.out)
    clear q7 b7 k7 F6 hce
    have HX := Lib.hid (show fixR L lost = parR (dataR (ownR L lost n) (gone.map Int.toNat) d (addR (sumP ((ownR L lost n).take d) n) (row (ownR L lost n) d) 1) (addR (sumQ ((ownR L lost n).take d) n) (row (ownR L lost n) (d + 1)) 1)) (gone.map Int.toNat) d n from by
      have h1 : L.length - 2 = d := by have := HD.out; omega
      unfold fixR
      rw [← HN.out, h1, HGone.out])
    generalize addR (sumP ((ownR L lost n).take d) n) (row (ownR L lost n) d) 1 = p at F7 HP7 HX
    generalize addR (sumQ ((ownR L lost n).take d) n) (row (ownR L lost n) (d + 1)) 1 = q at F7 HQ7 HX
    have hol := own_len L lost n
    generalize ownR L lost n = R at F7 HX HG hol
    have HOL := Lib.hid hol
    clear hol HrowD HrowE HSP HSQ hRD hRE HDI HEI
    obtain ⟨Ag, cg, rfl⟩ := own_slice F7.out.g
    have HL2 := Lib.hid (show R.length = d + 2 from by rw [HOL.out, HD.out])
    have HWant := Lib.hid HX.out.symm
    clear HX HGone HN
    rcases GO.out with rfl | ⟨a, rfl, ha⟩ | ⟨a, b, rfl, hab, hbL⟩
    · clear GO GA
      go_wp2_with fail
      go_step3
      exact ⟨rfl, JJ_of rfl (JF_of F7.out HG.out HL2.out HWant.out)⟩
    · clear GO GA
      obtain ⟨g, e, hx⟩ := gone_cell F7.out.g 0 (by simp) (a : Int) rfl
      subst e
      by_cases had : d ≤ a
      · go_wp2_with fail
        go_step3
        exact ⟨rfl, JJ_of rfl (JF_of F7.out HG.out HL2.out (by rw [← HWant.out]; simp [dataR, had]))⟩
      · obtain ⟨hA, hai⟩ := F7.out.O.get (i := a) (by rw [HOL.out]; exact ha)
        have HAI := Lib.hid hai
        have hca := F7.out.O.cell HAI.out
        clear hai
        go_wp2_with fail
        refine (out_add F7.out.B F7.out.O HAI.out F7.out.P (by rw [(Tw.good_row HG.out (by rw [HOL.out]; exact ha)).1, HP7.out.1]; exact Nat.le_refl _) (by rw [HP7.out.1]; exact hnl) (Tw.good_row HG.out (by rw [HOL.out]; exact ha)).2 HP7.out.2 HBy1.out).mono ?_
        rintro e w8 ⟨rfl, O8, B8, K8⟩
        have F8 := Lib.hid (F7.out.after HAI.out O8 B8 K8)
        clear O8 B8 K8
        have G8 := Lib.hid (good_set HG.out (i := a) (good_add (Tw.good_row HG.out (by rw [HOL.out]; exact ha)) HP7.out.2 HBy1.out))
        have W8 := Lib.hid (show parR (R.set a (addR (row R a) p 1)) (([(a : Int)] : List Int).map Int.toNat) d n = fixR L lost from by rw [← HWant.out]; simp [dataR, had])
        go_wp2_with fail
        go_step3
        simp only [Exit.then]
        apply_assumption
        refine Code.wp_mono (fun e a w h => ?_) (HT.out _ _ ?_)
        · cases e <;> first | exact h | exact (h : False).elim
        · exact JJ_of rfl (JF_of F8.out G8.out (by rw [List.length_set]; exact HL2.out) W8.out)
    · clear GO GA
      obtain ⟨g, e, hx⟩ := gone_cell F7.out.g 0 (by simp) (a : Int) rfl
      subst e
      obtain ⟨g', e, hy⟩ := gone_cell F7.out.g 1 (by simp) (b : Int) rfl
      cases e
      by_cases had : d ≤ a
      · go_wp2_with fail
        go_step3
        exact ⟨rfl, JJ_of rfl (JF_of F7.out HG.out HL2.out (by rw [← HWant.out]; simp [dataR, had]))⟩
      · have haL : a < L.length := by omega
        obtain ⟨hA, hai⟩ := F7.out.O.get (i := a) (by rw [HOL.out]; exact haL)
        have HAI := Lib.hid hai
        have hca := F7.out.O.cell HAI.out
        clear hai
        have HRA := Lib.hid (Tw.good_row HG.out (i := a) (by rw [HOL.out]; exact haL))
        by_cases hbd : b < d
        · have hxd : w7.drew.cell? ⟨g, 0, none⟩ = some (.int .i64 (a : Int)) := hx
          have hyd : w7.drew.cell? ⟨g, 1, none⟩ = some (.int .i64 (b : Int)) := hy
          have HTwo := Lib.hid (two_any (a := a) (b := b) F7.out.drew (by rw [HOL.out]; exact haL) (by rw [HOL.out]; exact hbL) (by omega) (by rw [HOL.out]; exact m2) HG.out HP7.out HQ7.out hnl)
          rw [HOL.out] at HTwo
          go_wp2_with fail
          go_region_held3 (fun w' => w'.cell? ⟨g, 0, none⟩ = some (.int .i64 (a : Int)) ∧ w'.cell? ⟨g, 1, none⟩ = some (.int .i64 (b : Int)))
            (first | with_reducible exact ⟨hxd, hyd⟩ | with_reducible exact ⟨hx8, hy8⟩)
            ((go_at_call 55; (with_reducible refine HTwo.out.mono ?_); rintro e w8 ⟨rfl, h8⟩; have F8 := Lib.hid h8; have hx8 := gone_at F8.out.g 0 (by simp) (a : Int) rfl; have hy8 := gone_at F8.out.g 1 (by simp) (b : Int) rfl; clear h8))
          have G8 := Lib.hid (good_two HG.out (by rw [HOL.out]; exact haL) (by rw [HOL.out]; exact hbL) HP7.out HQ7.out)
          have W8 := Lib.hid (show parR (twoR R a b p q) (([(a : Int), (b : Int)] : List Int).map Int.toNat) d n = fixR L lost from by rw [← HWant.out]; simp [dataR, had, hbd])
          clear hx8 hy8 hxd hyd hx hy hca
          go_wp2_with fail
          go_step3
          simp only [Exit.then]
          apply_assumption
          refine Code.wp_mono (fun e a w h => ?_) (HT.out _ _ ?_)
          · cases e <;> first | exact h | exact (h : False).elim
          · exact JJ_of rfl (JF_of F8.out G8.out (by rw [two_len]; exact HL2.out) W8.out)
        · by_cases hbe : b = d
          · have hbI : (b : Int) = (d : Int) := by omega
            have hxd : w7.drew.cell? ⟨g, 0, none⟩ = some (.int .i64 (a : Int)) := hx
            have hcd : w7.drew.cell? ⟨G, a, none⟩ = some hA := hca
            have hne : expI a ≠ 0 := by
              intro h
              exact pw_ne_zero a (by unfold expI at h; omega)
            have HNE := Lib.hid hne
            clear hne
            have ha255 : a < 255 := by omega
            go_wp2_with fail
            go_region_held3 (fun w' => w'.cell? ⟨g, 0, none⟩ = some (.int .i64 (a : Int)) ∧ w'.cell? ⟨G, a, none⟩ = some hA)
              (first | with_reducible exact ⟨hxd, hcd⟩ | with_reducible exact ⟨hx8, hc8⟩ | with_reducible exact ⟨hx9, hc9⟩ | with_reducible exact ⟨hxA, hcA⟩)
              (first
                | (go_at_call 57; (with_reducible refine (exp_any a ha255 _).mono ?_); rintro e w8 ⟨rfl, hb8⟩; have F8 := Lib.hid (F7.out.drew.below hb8); have hx8 := gone_at F8.out.g 0 (by simp) (a : Int) rfl; have hc8 := F8.out.O.cell HAI.out)
                | (go_at_call 56; (with_reducible refine (inv_any (expI a) (byt_exp a) HNE.out _).mono ?_); rintro e w9 ⟨rfl, hb9⟩; have F9 := Lib.hid (F8.out.below hb9); have hx9 := gone_at F9.out.g 0 (by simp) (a : Int) rfl; have hc9 := F9.out.O.cell HAI.out)
                | (go_at_call 54; (with_reducible refine (out_add F9.out.B F9.out.O HAI.out F9.out.Q (by rw [HRA.out.1, HQ7.out.1]; exact Nat.le_refl _) (by rw [HQ7.out.1]; exact hnl) HRA.out.2 HQ7.out.2 (byt_inv (byt_exp a))).mono ?_); rintro e wA ⟨rfl, OA, BA, KA⟩; have FA := Lib.hid (F9.out.after HAI.out OA BA KA); have hxA := gone_at FA.out.g 0 (by simp) (a : Int) rfl; have hcA := FA.out.O.cell HAI.out; clear OA BA KA))
            have G8 := Lib.hid (good_set HG.out (i := a) (good_add HRA.out HQ7.out.2 (byt_inv (byt_exp a))))
            have W8 := Lib.hid (show parR (R.set a (addR (row R a) q (invI (expI a)))) (([(a : Int), (b : Int)] : List Int).map Int.toNat) d n = fixR L lost from by rw [← HWant.out]; simp [dataR, had, hbd, hbe])
            clear hxA hcA hx9 hc9 hx8 hc8 hxd hcd hx hy hca
            go_wp2_with fail
            go_step3
            simp only [Exit.then]
            apply_assumption
            refine Code.wp_mono (fun e a w h => ?_) (HT.out _ _ ?_)
            · cases e <;> first | exact h | exact (h : False).elim
            · exact JJ_of rfl (JF_of FA.out G8.out (by rw [List.length_set]; exact HL2.out) W8.out)
          · have hbn : ¬ ((b : Int) = (d : Int)) := by omega
            go_wp2_with fail
            refine (out_add F7.out.B F7.out.O HAI.out F7.out.P (by rw [HRA.out.1, HP7.out.1]; exact Nat.le_refl _) (by rw [HP7.out.1]; exact hnl) HRA.out.2 HP7.out.2 HBy1.out).mono ?_
            rintro e w8 ⟨rfl, O8, B8, K8⟩
            have F8 := Lib.hid (F7.out.after HAI.out O8 B8 K8)
            clear O8 B8 K8
            have G8 := Lib.hid (good_set HG.out (i := a) (good_add HRA.out HP7.out.2 HBy1.out))
            have W8 := Lib.hid (show parR (R.set a (addR (row R a) p 1)) (([(a : Int), (b : Int)] : List Int).map Int.toNat) d n = fixR L lost from by rw [← HWant.out]; simp [dataR, had, hbd, hbe])
            go_wp2_with fail
            go_step3
            simp only [Exit.then]
            apply_assumption
            refine Code.wp_mono (fun e a w h => ?_) (HT.out _ _ ?_)
            · cases e <;> first | exact h | exact (h : False).elim
            · exact JJ_of rfl (JF_of F8.out G8.out (by rw [List.length_set]; exact HL2.out) W8.out)
theorem fix_false (A A' : Option Addr) (c c' : Nat) (L : List (List Int)) (lost : List Int) (w : World) (hm : L.length ≤ 1000000) (hm' : lost.length ≤ 1000000) (hr : Kd.C (Kd.slice 5 (Kd.int .u8)) w A L.length L) (ho : Kd.C (Kd.int .i64) w A' lost.length lost) (hc : L.length ≤ c) (hc' : lost.length ≤ c')
    (hmay : mayB L lost = false) :
    Calls Try.prog 45 #[.slice A L.length c, .slice A' lost.length c'] w fun e w' => e = .returned (.tuple #[.slice none 0 0, .bool false]) ∧ Below w.heap.size w w' := by
  have HM := Lib.hid (may_any A A' c c' L lost w hm hm' hr ho hc hc')
  rw [hmay] at HM
  clear hr ho hc hc' hmay
  go_enter Try.func45, Try.ntmps45
  go_wp2
  refine wp_scope_straight ?_
  go_wp2_with fail
  refine HM.out.mono ?_
  rintro e w1 ⟨r, rfl, _, hb1⟩
  go_wp2_with fail
  rw [Exit.noGoto_ret]
  exact bodyPost_ret (results_tmp2 rfl _ _ _) rfl ⟨rfl, hb1⟩
theorem fix_any (A0 : Option Addr) (c0 : Nat) (l0 : List (List Int)) (A1 : Option Addr) (c1 : Nat) (l1 : List Int) (r1 : List (List Int)) (r2 : Bool) (w : World) (hr0 : Kd.C (Kd.slice 5 (Kd.int .u8)) w A0 l0.length l0) (hc0 : l0.length ≤ c0) (hr1 : Kd.C (Kd.int .i64) w A1 l1.length l1) (hc1 : l1.length ≤ c1) (h : fixF l0 l1 = some (r1, r2)) :
    Calls Try.prog 45 #[.slice A0 l0.length c0, .slice A1 l1.length c1] w fun e w' => ∃ v0_ : Value, e = .returned (.tuple #[v0_, .bool r2]) ∧ Kd.N (Kd.slice 5 (Kd.int .u8)) 24 w' w.heap.size (fun k_ => (w.heap.size ≤ k_)) v0_ r1 ∧ Below w.heap.size w w' := by
  unfold fixF at h
  by_cases hc : (∀ r ∈ l0, ∀ x ∈ r, Byt x) ∧ (∀ r ∈ l0, r.length ≤ 1000000) ∧ l1.length ≤ 1000000 ∧ l0.length ≤ 1000000
  · rw [if_pos hc] at h
    by_cases hmay : mayB l0 l1 = true
    · rw [if_pos hmay] at h
      cases h
      exact fix_true A0 A1 c0 c1 l0 l1 w hc.2.2.2 hc.2.2.1 hr0 hr1 hc0 hc1 hc.1 hc.2.1 hmay
    · rw [if_neg hmay] at h
      cases h
      refine (fix_false A0 A1 c0 c1 l0 l1 w hc.2.2.2 hc.2.2.1 hr0 hr1 hc0 hc1 (Bool.eq_false_iff.2 hmay)).mono ?_
      rintro e w' ⟨rfl, hb⟩
      exact ⟨_, rfl, Kd.N_nil _ _ _ _ _, hb⟩
  · rw [if_neg hc] at h
    cases h
end Go.Proofs.Ytodbmgafejclmaa.Fw
namespace Go.Proofs.Ytodbmgafejclmaa.Lim
open Go.RowKit Go.Proofs.YtodbmgafejclmaaW.PrintWords
noncomputable def lim {α : Type} (g : Nat → Option α) : Option α := open Classical in if h : ∃ r, ∃ k, g k = some r then some (Classical.choose h) else none
theorem lim_some {α : Type} {g : Nat → Option α} {r : α} (h : lim g = some r) : ∃ k, g k = some r := by
  unfold lim at h
  split at h
  · rename_i hc
    have := Classical.choose_spec hc
    simp only [Option.some.injEq] at h
    rw [h] at this
    exact this
  · cases h
theorem lim_ev {α : Type} {g : Nat → Option α} {r : α} (hm : ∀ k, LeO (g k) (g (k + 1))) (h : Ev g r) : lim g = some r := by
  obtain ⟨K, hK⟩ := h
  have hc : ∃ r, ∃ k, g k = some r := ⟨r, K, hK K (Nat.le_refl _)⟩
  unfold lim
  rw [dif_pos hc]
  obtain ⟨k, hk⟩ := Classical.choose_spec hc
  have := at_rounds hm (Nat.le_max_left k K) hk
  rw [hK _ (Nat.le_max_right k K)] at this
  exact this.symm
theorem below_of_drewN {B : Nat} {w w' : World} (h : Drawn0 w w') : Below B w w' := by
  obtain ⟨nd, rfl⟩ := h
  exact pw_below_drewN (Below.refl _ _) nd
end Go.Proofs.Ytodbmgafejclmaa.Lim
namespace Go.Proofs.Ytodbmgafejclmaa.PRr
open Go.RowKit Go.Proofs.YtodbmgafejclmaaW.PrintWords Go.Proofs.YtodbmgafejclmaaW.PrintLast Go.Proofs.YtodbmgafejclmaaW.PrintMore
attribute [local go_sem] max2_int min2_int max_two min_two max_three min_three max_four min_four -- for this text's walks alone
set_option linter.unusedVariables false
set_option linter.unusedSimpArgs false
def errW : Option Int → Value
  | none => .nilIface
  | some c => .iface 0 (.int .i64 c)
theorem errW_none : errW none = .nilIface := rfl
theorem errW_some (c : Int) : errW (some c) = .iface 0 (.int .i64 c) := rfl
theorem info5 : (Try.prog.info? 5).map (fun i => (i.zero, i.size, i.bytes)) = some (some (.int .u8 0), 1, 1) := by kernel_rfl
theorem info24 : (Try.prog.info? 24).map (fun i => (i.zero, i.size, i.bytes)) = some (some (.slice none 0 0), 1, 24) := by kernel_rfl
def rd_L1 (xs : List (List Int)) (i : Int) : (List Int) := xs.getD i.toNat ([] : List Int)
theorem at_L1 {w : World} {A : Option Addr} {n : Nat} {xs : List (List Int)} (h : Kd.C (Kd.slice 5 (Kd.int .u8)) w A n xs) (i : Int) (h0 : 0 ≤ i) (h1 : i < n) : ∃ ad A0 c0, A = some ad ∧ w.cell? (ad.add i.toNat) = some (.slice A0 (rd_L1 xs i).length c0) ∧ (rd_L1 xs i).length ≤ c0 ∧ (Kd.int .u8).C w A0 (rd_L1 xs i).length (rd_L1 xs i) := by
  obtain ⟨ad, c, e, _, hK, hc0⟩ := Kd.C_get h ([] : List Int) i h0 h1
  have hc : ∀ j u, c[j]? = some u → w.cell? (ad.add (i.toNat * 1 + j)) = some u := hc0
  obtain ⟨A0, c0, rfl, l0, g0⟩ := hK
  exact ⟨ad, A0, c0, e, by have hq := hc 0 _ rfl; rwa [Nat.mul_one, Nat.add_zero] at hq, l0, g0⟩
end Go.Proofs.Ytodbmgafejclmaa.PRr
namespace Go.Proofs.Ytodbmgafejclmaa.PRr
open Go.RowKit Go.Proofs.YtodbmgafejclmaaW.PrintWords Go.Proofs.YtodbmgafejclmaaW.PrintLast Go.Proofs.YtodbmgafejclmaaW.PrintMore
attribute [local go_sem] max2_int min2_int max_two min_two max_three min_three max_four min_four -- for this text's walks alone
set_option linter.unusedVariables false
set_option linter.unusedSimpArgs false
noncomputable def ramekinref5_even.f (l0 : List (List Int)) (a1 : Int) (a2 : Int) : Option (Bool) := Lim.lim (fun k_ => PRq.ramekinref5_even.f k_ l0 a1 a2)
theorem ramekinref5_even.calls (A0 : Option Addr) (c0 : Nat) (l0 : List (List Int)) (a1 : Int) (a2 : Int) (r : Bool) (w : World) (hr0 : Kd.C (Kd.slice 5 (Kd.int .u8)) w A0 l0.length l0) (hc0 : l0.length ≤ c0) (h : ramekinref5_even.f l0 a1 a2 = some r) :
    Calls Try.prog 39 #[.slice A0 l0.length c0, .int .i64 a1, .int .i64 a2] w fun e w' => e = .returned (.bool r) ∧ Below w.heap.size w w' := by
  obtain ⟨k_, hk_⟩ := Lim.lim_some h
  first
  | exact PRq.ramekinref5_even.calls k_ A0 c0 l0 a1 a2 r w hr0 hc0 hk_
  | exact (PRq.ramekinref5_even.calls k_ A0 c0 l0 a1 a2 r w hr0 hc0 hk_).mono (fun _ _ h_ => ⟨h_.1, Lim.below_of_drewN h_.2⟩)
noncomputable def ramekinref2_Exp.f (a0 : Int) : Option (Int) := Lim.lim (fun k_ => PRq.ramekinref2_Exp.f k_ a0)
theorem ramekinref2_Exp.calls (a0 : Int) (r : Int) (w : World) (h : ramekinref2_Exp.f a0 = some r) :
    Calls Try.prog 40 #[.int .i64 a0] w fun e w' => e = .returned (.int .u8 r) ∧ Below w.heap.size w w' := by
  obtain ⟨k_, hk_⟩ := Lim.lim_some h
  first
  | exact PRq.ramekinref2_Exp.calls k_ a0 r w hk_
  | exact (PRq.ramekinref2_Exp.calls k_ a0 r w hk_).mono (fun _ _ h_ => ⟨h_.1, Lim.below_of_drewN h_.2⟩)
noncomputable def ramekinref2_Mul.f (a0 : Int) (a1 : Int) : Option (Int) := Lim.lim (fun k_ => PRq.ramekinref2_Mul.f k_ a0 a1)
theorem ramekinref2_Mul.calls (a0 : Int) (a1 : Int) (r : Int) (w : World) (h : ramekinref2_Mul.f a0 a1 = some r) :
    Calls Try.prog 41 #[.int .u8 a0, .int .u8 a1] w fun e w' => e = .returned (.int .u8 r) ∧ Below w.heap.size w w' := by
  obtain ⟨k_, hk_⟩ := Lim.lim_some h
  first
  | exact PRq.ramekinref2_Mul.calls k_ a0 a1 r w hk_
  | exact (PRq.ramekinref2_Mul.calls k_ a0 a1 r w hk_).mono (fun _ _ h_ => ⟨h_.1, Lim.below_of_drewN h_.2⟩)
end Go.Proofs.Ytodbmgafejclmaa.PRr
