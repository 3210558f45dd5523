/-
  rs.two: two rows of data made again.
-/
import Derived.Test.YtdbnladpogpiiaaOt
import Derived.Handy
import Derived.Deep.RegionHeld3
import Derived.StillTailTactics
import Derived.Lib.Hide
namespace Go.Proofs.Ytdbnladpogpiiaa.Tw
open Go.RowKit Go.Proofs.YtdbnladpogpiiaaW.PrintWords
open Go.Proofs.Ytdbnladpogpiiaa.PRq Go.Proofs.Ytdbnladpogpiiaa.Fld Go.Proofs.Ytdbnladpogpiiaa.Pl Go.Proofs.Ytdbnladpogpiiaa.Ot
set_option linter.unusedSimpArgs false
set_option linter.unusedVariables false
theorem exp_any (n : Nat) (hn : n < 255) (w : World) : Calls Try.prog 38 #[.int .i64 (n : Int)] w fun e w' => e = .returned (.int .u8 (expI n)) ∧ Below w.heap.size w w' := by
  obtain ⟨k, hk⟩ := (exp_ev n hn).rounds
  exact gf_Exp.calls k n _ w hk
theorem inv_any (x : Int) (hx : Byt x) (h0 : x ≠ 0) (w : World) : Calls Try.prog 37 #[.int .u8 x] w fun e w' => e = .returned (.int .u8 (invI x)) ∧ Below w.heap.size w w' := by
  obtain ⟨a, rfl⟩ := Int.eq_ofNat_of_zero_le hx.1
  have h := inv_ev a (by have := hx.2; omega) (by intro h; exact h0 (by rw [h]; rfl))
  obtain ⟨k, hk⟩ := (Ev.bind (f := fun _ t => some t) h (Ev.now _)).rounds
  exact gf_Inv.calls k a _ w hk
theorem mulI_any (x y : Int) (hx : Byt x) (hy : Byt y) (w : World) : Calls Try.prog 41 #[.int .u8 x, .int .u8 y] w fun e w' => e = .returned (.int .u8 (mulI x y)) ∧ Below w.heap.size w w' := gf_Mul.calls x y _ w (mul_f hx hy)
theorem xor_ne {a b : Nat} (ha : a < 16) (hb : b < 16) (h : a ≠ b) : xorI (expI a) (expI b) ≠ 0 := by
  have := exp_inj ha hb h
  unfold xorI expI
  intro h2
  have h3 : pw a ^^^ pw b = 0 := by simpa using h2
  apply this
  have h4 := congrArg (· ^^^ pw b) h3
  simpa [Nat.xor_assoc, Nat.xor_self] using h4

/-- rows of one length, of bytes -/
def GoodR (n : Nat) (rows : List (List Int)) : Prop := ∀ r ∈ rows, r.length = n ∧ Bytes r
theorem good_row {n : Nat} {rows : List (List Int)} (h : GoodR n rows) {i : Nat} (hi : i < rows.length) : (row rows i).length = n ∧ Bytes (row rows i) := by
  rw [row_lt hi]; exact h _ (List.getElem_mem hi)
theorem good_set {n : Nat} {rows : List (List Int)} (h : GoodR n rows) {i : Nat} {r : List Int} (hr : r.length = n ∧ Bytes r) : GoodR n (rows.set i r) := by
  intro x hx
  rcases List.mem_or_eq_of_mem_set hx with hx | rfl
  · exact h x hx
  · exact hr
theorem good_add {n : Nat} {a x : List Int} {b : Int} (ha : a.length = n ∧ Bytes a) (hx : Bytes x) (hb : Byt b) : (addR a x b).length = n ∧ Bytes (addR a x b) := ⟨by rw [addR_len]; exact ha.1, bytes_addR ha.2 hx hb⟩
theorem row_set_self {rows : List (List Int)} {i : Nat} (hi : i < rows.length) (r : List Int) : row (rows.set i r) i = r := by unfold row; simp [hi]
theorem row_set_ne {rows : List (List Int)} {i j : Nat} (h : i ≠ j) (r : List Int) : row (rows.set i r) j = row rows j := by unfold row; simp [List.getElem?_set_ne h]

/-- what rs.Fix has at hand -/
structure FS (w0 w : World) (G : Nat) (hs : List Value) (rows : List (List Int)) (vp : Value) (p : List Int) (vq : Value) (q : List Int) (vg : Value) (gone : List Int) : Prop where
  B : Below w0.heap.size w0 w
  O : Out w w0.heap.size G hs rows
  P : Beside w w0.heap.size hs vp p
  Q : Beside w w0.heap.size hs vq q
  g : w.ownsRow w0.heap.size 3 1 vg gone.length (encs (Value.int .i64) gone)
namespace FS
variable {w0 w w1 : World} {G : Nat} {hs : List Value} {rows rows' : List (List Int)} {vp vq vg h : Value} {p q gone : List Int} {i : Nat}
theorem below (F : FS w0 w G hs rows vp p vq q vg gone) (hb : Below w.heap.size w w1) : FS w0 w1 G hs rows vp p vq q vg gone :=
  ⟨F.B.trans (hb.mono F.B.size), F.O.below hb, F.P.below hb, F.Q.below hb, pw_own_below F.g hb⟩
theorem drew (F : FS w0 w G hs rows vp p vq q vg gone) : FS w0 w.drew G hs rows vp p vq q vg gone := F.below (below_drew1 (Below.refl _ _))
theorem after (F : FS w0 w G hs rows vp p vq q vg gone) (hi : hs[i]? = some h) (O : Out w1 w0.heap.size G hs rows') (hB : Below w0.heap.size w0 w1) (hk : Kept w w1 (fun k => some k = h.ownBlock)) : FS w0 w1 G hs rows' vp p vq q vg gone := by
  refine ⟨hB, O, F.P.kept hi hk, F.Q.kept hi hk, own_move F.g (fun k e => hk.2 k (own_lt F.g k e) (fun h2 => ?_))⟩
  have hil : i < rows.length := by have := (List.getElem?_eq_some_iff.1 hi).1; have := F.O.len; omega
  rcases own_type_ne (F.O.row i h rows[i] hi (List.getElem?_eq_getElem hil)) F.g (by decide) with h1 | h1
  · rw [h1] at h2; cases h2
  · exact h1 (by rw [← h2, e])
end FS
set_option maxRecDepth 100000 in
set_option maxHeartbeats 2000000 in
theorem two_any {w0 w : World} {G n a b : Nat} {hs : List Value} {rows : List (List Int)} {vp vq vg : Value} {p q gone : List Int} (F : FS w0 w G hs rows vp p vq q vg gone) (ha : a < rows.length) (hb : b < rows.length) (hab : a ≠ b) (h16 : rows.length ≤ 16)
    (hg : GoodR n rows) (hp : p.length = n ∧ Bytes p) (hq : q.length = n ∧ Bytes q) (hn : n ≤ 1000000) :
    Calls Try.prog 36 #[.slice (some ⟨G, 0, none⟩) rows.length rows.length, .int .i64 (a : Int), .int .i64 (b : Int), vp, vq] w fun e w' => e = .returned (.tuple #[]) ∧ FS w0 w' G hs (twoR rows a b p q) vp p vq q vg gone := by
  have hx0 := Lib.hid (xor_ne (a := a) (b := b) (by omega) (by omega) hab)
  obtain ⟨hA, ia⟩ := F.O.get ha
  obtain ⟨hB, ib⟩ := F.O.get hb
  have F0 := Lib.hid F
  have IA := Lib.hid ia
  have IB := Lib.hid ib
  clear F ia ib
  go_enter Try.func36, Try.ntmps36
  go_wp2_with fail
  refine (exp_any a (by omega) w).mono ?_
  rintro e w1 ⟨rfl, hb1⟩
  have F1 := Lib.hid (F0.out.below hb1)
  clear F0 hb1
  go_wp2_with fail
  refine (exp_any b (by omega) w1).mono ?_
  rintro e w2 ⟨rfl, hb2⟩
  have F2 := Lib.hid (F1.out.below hb2)
  clear F1 hb2
  go_wp2_with fail
  rw [xor_u8 (byt_exp a) (byt_exp b)]
  refine (inv_any _ (byt_xor (byt_exp a) (byt_exp b)) hx0.out w2).mono ?_
  rintro e w3 ⟨rfl, hb3⟩
  have F3 := Lib.hid (F2.out.below hb3)
  clear F2 hb3
  have bE : Byt (invI (xorI (expI a) (expI b))) := byt_inv (byt_xor (byt_exp a) (byt_exp b))
  have hE : twoR rows a b p q = ((rows.set a (addR (addR (row rows a) q (invI (xorI (expI a) (expI b)))) p (mulI (invI (xorI (expI a) (expI b))) (expI b)))).set b (addR (addR (row rows b) p 1) (addR (addR (row rows a) q (invI (xorI (expI a) (expI b)))) p (mulI (invI (xorI (expI a) (expI b))) (expI b))) 1)) := rfl
  have HE := Lib.hid hE
  clear hE
  generalize invI (xorI (expI a) (expI b)) = E at bE HE ⊢
  have BE := Lib.hid bE
  have c3 := F3.out.O.cell IA.out
  clear bE
  go_wp2_with fail
  refine (out_add F3.out.B F3.out.O IA.out F3.out.Q (by rw [(good_row hg ha).1, hq.1]; exact Nat.le_refl _) (by rw [hq.1]; exact hn) (good_row hg ha).2 hq.2 BE.out).mono ?_
  rintro e w4 ⟨rfl, O4, B4, K4⟩
  have F4 := Lib.hid (F3.out.after IA.out O4 B4 K4)
  clear O4 B4 K4 c3 F3
  have c4 := F4.out.O.cell IA.out
  have g4 : GoodR n (rows.set a (addR (row rows a) q E)) := good_set hg (good_add (good_row hg ha) hq.2 BE.out)
  have r4 : row (rows.set a (addR (row rows a) q E)) a = addR (row rows a) q E := row_set_self ha _
  obtain ⟨R4, hR4⟩ : ∃ R, rows.set a (addR (row rows a) q E) = R := ⟨_, rfl⟩
  have l4 : R4.length = rows.length := by rw [← hR4, List.length_set]
  rw [hR4] at F4 g4 r4
  have R4H := Lib.hid (And.intro hR4 r4)
  clear hR4 r4
  have L4 := Lib.hid l4
  clear l4
  have c4d : w4.drew.cell? ⟨G, a, none⟩ = some hA := c4
  go_wp2_with fail
  go_region_held3 (fun w' => w'.cell? ⟨G, a, none⟩ = some hA)
    (first | with_reducible exact c4d | with_reducible exact c6 | with_reducible exact c5)
    (first
      | (go_at_call 41; (with_reducible refine (mulI_any E (expI b) BE.out (byt_exp b) _).mono ?_); rintro e w5 ⟨rfl, hb5⟩; have F5 := Lib.hid (F4.out.drew.below hb5); have c5 := F5.out.O.cell IA.out)
      | (go_at_call 35; (with_reducible refine (out_add F5.out.B F5.out.O IA.out F5.out.P (by rw [(good_row g4 (by rw [L4.out]; exact ha)).1, hp.1]; exact Nat.le_refl _) (by rw [hp.1]; exact hn) (good_row g4 (by rw [L4.out]; exact ha)).2 hp.2 (byt_mul (byt_exp b))).mono ?_); rintro e w6 ⟨rfl, O6, B6, K6⟩; have F6 := Lib.hid (F5.out.after IA.out O6 B6 K6); have c6 := F6.out.O.cell IA.out; clear O6 B6 K6))
  have g6 : GoodR n (R4.set a (addR (row R4 a) p (mulI E (expI b)))) := good_set g4 (good_add (good_row g4 (by rw [L4.out]; exact ha)) hp.2 (byt_mul (byt_exp b)))
  have r6 : row (R4.set a (addR (row R4 a) p (mulI E (expI b)))) a = addR (row R4 a) p (mulI E (expI b)) ∧ row (R4.set a (addR (row R4 a) p (mulI E (expI b)))) b = row rows b := by
    refine ⟨row_set_self (by rw [L4.out]; exact ha) _, ?_⟩
    rw [row_set_ne hab, ← R4H.out.1, row_set_ne hab]
  obtain ⟨R6, hR6⟩ : ∃ R, R4.set a (addR (row R4 a) p (mulI E (expI b))) = R := ⟨_, rfl⟩
  have l6 : R6.length = rows.length := by rw [← hR6, List.length_set]; exact L4.out
  rw [hR6] at F6 g6 r6
  have R6H := Lib.hid (And.intro hR6 r6)
  clear hR6 r6
  have L6 := Lib.hid l6
  clear l6 c4 c4d c5
  have d6 := F6.out.O.cell IB.out
  have b1 : Byt 1 := ⟨by omega, by omega⟩
  have B1 := Lib.hid b1
  clear b1
  go_wp2_with fail
  refine (out_add F6.out.B F6.out.O IB.out F6.out.P (by rw [(good_row g6 (by rw [L6.out]; exact hb)).1, hp.1]; exact Nat.le_refl _) (by rw [hp.1]; exact hn) (good_row g6 (by rw [L6.out]; exact hb)).2 hp.2 B1.out).mono ?_
  rintro e w7 ⟨rfl, O7, B7, K7⟩
  have F7 := Lib.hid (F6.out.after IB.out O7 B7 K7)
  clear O7 B7 K7 c6 d6
  have g7 : GoodR n (R6.set b (addR (row R6 b) p 1)) := good_set g6 (good_add (good_row g6 (by rw [L6.out]; exact hb)) hp.2 B1.out)
  have r7 : row (R6.set b (addR (row R6 b) p 1)) b = addR (row R6 b) p 1 ∧ row (R6.set b (addR (row R6 b) p 1)) a = row R6 a := ⟨row_set_self (by rw [L6.out]; exact hb) _, row_set_ne (Ne.symm hab) _⟩
  obtain ⟨R7, hR7⟩ : ∃ R, R6.set b (addR (row R6 b) p 1) = R := ⟨_, rfl⟩
  have l7 : R7.length = rows.length := by rw [← hR7, List.length_set]; exact L6.out
  rw [hR7] at F7 g7 r7
  have R7H := Lib.hid (And.intro hR7 r7)
  clear hR7 r7
  have L7 := Lib.hid l7
  clear l7
  have c7 : w7.cell? ⟨G, a, none⟩ = some hA := F7.out.O.cell IA.out
  have d7 : w7.cell? ⟨G, b, none⟩ = some hB := F7.out.O.cell IB.out
  have c7d : w7.drew.cell? ⟨G, a, none⟩ = some hA := c7
  have d7d : w7.drew.cell? ⟨G, b, none⟩ = some hB := d7
  have HG7 := Lib.hid g7
  clear g7 g6 g4
  go_wp2_with fail
  go_region_held3 (fun w' => w'.cell? ⟨G, a, none⟩ = some hA ∧ w'.cell? ⟨G, b, none⟩ = some hB)
    (first | with_reducible exact ⟨c7d, d7d⟩ | with_reducible exact ⟨c8, d8⟩)
    ((go_at_call 35; (with_reducible refine (out_add_row F7.out.drew.B F7.out.drew.O IB.out IA.out (Ne.symm hab) (by rw [(good_row HG7.out (by rw [L7.out]; exact ha)).1, (good_row HG7.out (by rw [L7.out]; exact hb)).1]; exact Nat.le_refl _) (by rw [(good_row HG7.out (by rw [L7.out]; exact ha)).1]; exact hn) (good_row HG7.out (by rw [L7.out]; exact hb)).2 (good_row HG7.out (by rw [L7.out]; exact ha)).2 B1.out).mono ?_); rintro e w8 ⟨rfl, O8, B8, K8⟩; have F8 := Lib.hid (F7.out.drew.after IB.out O8 B8 K8); have c8 := F8.out.O.cell IA.out; have d8 := F8.out.O.cell IB.out; clear O8 B8 K8))
  go_wp2_with fail
  go_returns
  refine ⟨rfl, ?_⟩
  have F9 := F8.out
  rw [HE.out]
  have e9 : R7.set b (addR (row R7 b) (row R7 a) 1) = (rows.set a (addR (addR (row rows a) q E) p (mulI E (expI b)))).set b (addR (addR (row rows b) p 1) (addR (addR (row rows a) q E) p (mulI E (expI b))) 1) := by
    rw [R7H.out.2.1, R7H.out.2.2, R6H.out.2.1, R6H.out.2.2, R4H.out.2, ← R7H.out.1, ← R6H.out.1, ← R4H.out.1, List.set_set, List.set_set, row_set_self ha]
  rw [← e9]
  exact F9
end Go.Proofs.Ytdbnladpogpiiaa.Tw
