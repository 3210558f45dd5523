/-
  Parts of a proof, laid together by a program of mine (pack.py): Fw, Lim, PRrx0, PRrx1, PRrx2, PRrx3, Co, Cw, Cd.
-/
import Derived.ScopeJumps
import Derived.WalkMore
import Derived.Below
import Derived.Deep.Draws
import Derived.Deep.AppendLies
import Derived.Maps.AppendAt
import Derived.OwnWalk
import Derived.Laws.BytesArg
import Derived.Laws.MakeOwn
import Derived.Laws.OwnMore
import Derived.Deep.OwnRows
import Derived.Tactics
import Derived.Lib.ConvBytes
import Derived.Laws.Slices
import Derived.WalkKit
import Derived.KernelRfl
import Derived.RowKit3
import Derived.Deep.LoopGhost
import Derived.Deep.QuietTactic
import Derived.BigQuiet
import Derived.WideLaws
import Derived.Deep.DeepCutAuto
import Derived.Deep.CutBlock
import Derived.Deep.RegionHeld3
import Derived.Laws.Rows
import Derived.Lib.AppendStr
import Derived.ArgAppend
import Derived.Laws.IdiomCopy
import Derived.OrdersHeld
import Derived.Laws.BitsLemmas
import Derived.RowKit
import Derived.Test.YtibileffpgnjhaaZB16
namespace Go.Proofs.Ytibileffpgnjhaa.Fw
open Go.RowKit Go.Proofs.YtibileffpgnjhaaW.PrintWords
open Go.Proofs.Ytibileffpgnjhaa.PRq Go.Proofs.Ytibileffpgnjhaa.Fld Go.Proofs.Ytibileffpgnjhaa.Pl Go.Proofs.Ytibileffpgnjhaa.Ot Go.Proofs.Ytibileffpgnjhaa.Tw Go.Proofs.Ytibileffpgnjhaa.Kp Go.Proofs.Ytibileffpgnjhaa.Ow Go.Proofs.Ytibileffpgnjhaa.Sr
set_option linter.unusedSimpArgs false
set_option linter.unusedVariables false
theorem sums_any (A : Option Addr) (m c n : Nat) (L : List (List Int)) (w : World) (hm : m = L.length) (hr : Kd.C (Kd.slice 5 (Kd.int .u8)) w A m L) (hc : m ≤ c) (hg : GoodR n L) (h254 : L.length ≤ 254) (hn : n ≤ 1000000) :
    Calls Try.prog 51 #[.slice A m c, .int .i64 (n : Int)] w fun e w' => ∃ v0 v1, e = .returned (.tuple #[v0, v1]) ∧ BR w' w.heap.size v0 (sumP L n) ∧ BR w' w.heap.size v1 (sumQ L n) ∧ (∀ k, v0.ownBlock = some k → v1.ownBlock ≠ some k) ∧ Below w.heap.size w w' := by
  subst hm
  obtain ⟨k, hk⟩ := (sums_ev L n (fun r h => (hg r h).1) (fun r h => (hg r h).2) h254 (by omega)).rounds
  refine (rs_sums.calls k A c L n _ _ w hr hc hk).mono ?_
  rintro e w' ⟨v0, v1, rfl, h0, h1, hb⟩
  exact ⟨v0, v1, rfl, BR.of h0, BR.of h1, fun k e1 e2 => h0.1 k e1 e2.symm, hb⟩
theorem may_facts {l : List (List Int)} {lost : List Int} (h : mayB l lost = true) : 4 ≤ l.length ∧ l.length ≤ 16 ∧ lost.length ≤ 2 ∧ (∀ i ∈ lost, 0 ≤ i ∧ i < l.length) ∧ lost.Nodup ∧ alikeR (kept l lost) = true := by
  simp only [mayB, Bool.and_eq_true, decide_eq_true_eq, List.all_eq_true] at h
  obtain ⟨⟨⟨⟨⟨h1, h2⟩, h3⟩, h4⟩, h5⟩, h6⟩ := h
  exact ⟨h1, h2, h3, h4, h5, h6⟩
theorem alike_len {L : List (List Int)} (h : alikeR L = true) : ∀ r ∈ L, r.length = lenR L := by
  cases L with
  | nil => intro r hr; cases hr
  | cons q L =>
    intro r hr
    simp only [alikeR, List.all_eq_true, beq_iff_eq] at h
    rcases List.mem_cons.1 hr with rfl | hr
    · rfl
    · exact h r hr
theorem kept_len {l : List (List Int)} {lost : List Int} (h : alikeR (kept l lost) = true) (i : Nat) (hi : i < l.length) (hc : lost.contains (i : Int) = false) : (row l i).length = lenR (kept l lost) := by
  refine alike_len h _ ?_
  rw [kept_idx]
  refine List.mem_map.2 ⟨i, ?_, rfl⟩
  unfold idx
  rw [List.mem_filter]
  exact ⟨by simpa using hi, by rw [hc]; rfl⟩
theorem lenR_le {l : List (List Int)} {lost : List Int} (h : ∀ r ∈ l, r.length ≤ 1000000) : lenR (kept l lost) ≤ 1000000 := by
  rw [kept_idx]
  cases hi : idx l.length lost with
  | nil => simp [lenR]
  | cons i L =>
    have him : i ∈ idx l.length lost := by rw [hi]; simp
    have := idx_lt him
    simp only [List.map_cons, lenR]
    rw [row_lt this]
    exact h _ (List.getElem_mem this)
theorem own_good {l : List (List Int)} {lost : List Int} {n : Nat} (hb : ∀ r ∈ l, Bytes r) (hk : ∀ i : Nat, i < l.length → lost.contains (i : Int) = false → (row l i).length = n) : GoodR n (ownR l lost n) := by
  intro r hr
  obtain ⟨i, hi, rfl⟩ := List.getElem_of_mem hr
  have hil : i < l.length := by simpa [ownR] using hi
  simp only [ownR, List.getElem_mapIdx]
  split
  · refine ⟨by simp, fun x hx => ?_⟩
    rw [List.mem_replicate] at hx
    rw [hx.2]; exact byt_zero
  · rename_i hc
    have := hk i hil (Bool.eq_false_iff.2 hc)
    rw [row_lt hil] at this
    exact ⟨this, hb _ (List.getElem_mem hil)⟩
theorem own_len (l : List (List Int)) (lost : List Int) (n : Nat) : (ownR l lost n).length = l.length := by simp [ownR]
theorem gone_of {lost : List Int} {N : Nat} (h2 : lost.length ≤ 2) (hin : ∀ i ∈ lost, 0 ≤ i ∧ i < N) (hnd : lost.Nodup) :
    srt lost = [] ∨ (∃ a : Nat, srt lost = [(a : Int)] ∧ a < N) ∨ ∃ a b : Nat, srt lost = [(a : Int), (b : Int)] ∧ a < b ∧ b < N := by
  match lost, h2, hin, hnd with
  | [], _, _, _ => exact .inl rfl
  | [x], _, hin, _ =>
    have := hin x (by simp)
    exact .inr (.inl ⟨x.toNat, by simp [srt]; omega, by omega⟩)
  | [x, y], _, hin, hnd =>
    have h1 := hin x (by simp)
    have h2 := hin y (by simp)
    have h3 : x ≠ y := by simpa using hnd
    refine .inr (.inr ?_)
    by_cases h : x ≤ y
    · exact ⟨x.toNat, y.toNat, by simp [srt, h]; omega, by omega, by omega⟩
    · exact ⟨y.toNat, x.toNat, by simp [srt, h]; omega, by omega, by omega⟩
theorem gone_all {lost : List Int} {N : Nat} (h2 : lost.length ≤ 2) (hin : ∀ i ∈ lost, 0 ≤ i ∧ i < N) (hnd : lost.Nodup) : (srt lost).length ≤ 2 ∧ ∀ j (h : j < (srt lost).length), ∃ i : Nat, (srt lost)[j] = (i : Int) ∧ i < N := by
  rcases gone_of h2 hin hnd with h | ⟨a, h, ha⟩ | ⟨a, b, h, ha, hb⟩
  · rw [h]; exact ⟨by simp, fun j hj => absurd hj (by simp)⟩
  · simp only [h]
    refine ⟨by simp, fun j hj => ?_⟩
    obtain rfl : j = 0 := by simp at hj; omega
    exact ⟨a, rfl, ha⟩
  · simp only [h]
    refine ⟨by simp, fun j hj => ?_⟩
    have : j = 0 ∨ j = 1 := by simp at hj; omega
    rcases this with rfl | rfl
    · exact ⟨a, rfl, by omega⟩
    · exact ⟨b, rfl, hb⟩
theorem good_take {n m : Nat} {rows : List (List Int)} (h : GoodR n rows) : GoodR n (rows.take m) := fun r hr => h r (List.mem_of_mem_take hr)
theorem two_len (rows : List (List Int)) (a b : Nat) (p q : List Int) : (twoR rows a b p q).length = rows.length := by unfold twoR; simp
theorem good_two {n a b : Nat} {rows : List (List Int)} {p q : List Int} (h : GoodR n rows) (ha : a < rows.length) (hb : b < rows.length) (hp : p.length = n ∧ Bytes p) (hq : q.length = n ∧ Bytes q) : GoodR n (twoR rows a b p q) := by
  have e1 := byt_inv (byt_xor (byt_exp a) (byt_exp b))
  have e2 : Byt (mulI (invI (xorI (expI a) (expI b))) (expI b)) := byt_mul (byt_exp b)
  have e3 : Byt 1 := ⟨by omega, by omega⟩
  have r1 := good_add (good_add (Tw.good_row h ha) hq.2 e1) hp.2 e2
  exact good_set (good_set h r1) (good_add (good_add (Tw.good_row h hb) hp.2 e3) r1.2 e3)
/-- a row of parity, added to -/
theorem fs_addP {w0 w w1 : World} {G : Nat} {hs : List Value} {rows : List (List Int)} {vp vq vg : Value} {p p' q gone : List Int} (F : FS w0 w G hs rows vp p vq q vg gone) (hpq : ∀ k, vp.ownBlock = some k → vq.ownBlock ≠ some k)
    (hB : Below w0.heap.size w0 w1) (hk : Kept w w1 (fun k => some k = vp.ownBlock)) (hp : BR w1 w0.heap.size vp p') : FS w0 w1 G hs rows vp p' vq q vg gone := by
  have hrow : ∀ (i : Nat) (h : Value) (r : List Int), hs[i]? = some h → rows[i]? = some r → BR w1 w0.heap.size h r := fun i h r h1 h2 => (F.O.row i h r h1 h2).kept hk (fun k e => F.P.2 i h k h1 e)
  refine ⟨hB, ⟨own_move F.O.head (fun k e => hk.2 k (own_lt F.O.head k e) (fun h2 => ?_)), hrow, F.O.apart, F.O.max⟩, ⟨hp, F.P.2⟩, ⟨F.Q.1.kept hk (fun k e h2 => hpq k h2 e), F.Q.2⟩, own_move F.g (fun k e => hk.2 k (own_lt F.g k e) (fun h2 => ?_))⟩
  · rcases own_type_ne F.P.1 F.O.head (by decide) with h1 | h1
    · rw [h1] at h2; cases h2
    · exact h1 (by rw [← h2, e])
  · rcases own_type_ne F.P.1 F.g (by decide) with h1 | h1
    · rw [h1] at h2; cases h2
    · exact h1 (by rw [← h2, e])
theorem fs_addQ {w0 w w1 : World} {G : Nat} {hs : List Value} {rows : List (List Int)} {vp vq vg : Value} {p q' q gone : List Int} (F : FS w0 w G hs rows vp p vq q vg gone) (hpq : ∀ k, vp.ownBlock = some k → vq.ownBlock ≠ some k)
    (hB : Below w0.heap.size w0 w1) (hk : Kept w w1 (fun k => some k = vq.ownBlock)) (hq : BR w1 w0.heap.size vq q') : FS w0 w1 G hs rows vp p vq q' vg gone := by
  have F' : FS w0 w G hs rows vq q vp p vg gone := ⟨F.B, F.O, F.Q, F.P, F.g⟩
  have F2 := fs_addP F' (fun k e1 e2 => hpq k e2 e1) hB hk hq
  exact ⟨F2.B, F2.O, F2.Q, F2.P, F2.g⟩
theorem wp_scope_fwd {P : Program} {a : Act} {w : World} {Q : Exit → Act → World → Prop} {c rest : Code} (l : Nat) (J : Act → World → Prop) (hf : findLabel c l = some (Code.skip.seq rest)) (tail : ∀ a w, J a w → rest.wp P (Exit.noGoto Q) a w)
    (first : (∀ a w, J a w → rest.wp P (Exit.noGoto Q) a w) → c.wp P (Exit.jump l J Q) a w) : (Code.scope c).wp P Q a w :=
  wp_scope_jumps l J (fun _ _ => 0) hf (first tail) (fun a w hJ => wp_seq (wp_skip (Code.wp_mono (fun e a w h => by cases e <;> first | exact h | exact (h : False).elim) (tail a w hJ))))
/-- what is so where the parities are made again -/
structure JF (w0 w : World) (G : Nat) (hs : List Value) (rows : List (List Int)) (vg : Value) (gone : List Int) (todo : List Nat) (n d : Nat) (want : List (List Int)) : Prop where
  B : Below w0.heap.size w0 w
  O : Out w w0.heap.size G hs rows
  g : w.ownsRow w0.heap.size 3 1 vg gone.length (encs (Value.int .i64) gone)
  good : GoodR n rows
  len : rows.length = d + 2
  par : parR rows todo d n = want
theorem gone_cell {w : World} {base cg : Nat} {Ag : Option Addr} {gone : List Int} (h : w.ownsRow base 3 1 (.slice Ag gone.length cg) gone.length (encs (Value.int .i64) gone)) (j : Nat) (hj : j < gone.length) (x : Int) (he : gone[j] = x) : ∃ g, Ag = some ⟨g, 0, none⟩ ∧ w.cell? ⟨g, j, none⟩ = some (.int .i64 x) := by
  rcases h.2 with ⟨h1, h2⟩ | ⟨g, cap, cur, h1, _⟩
  · omega
  · cases h1
    refine ⟨g, rfl, ?_⟩
    rw [h.cellAt j (by omega)]
    simp [encs, hj, he]
theorem gone_at {w : World} {base cg g : Nat} {gone : List Int} (h : w.ownsRow base 3 1 (.slice (some ⟨g, 0, none⟩) gone.length cg) gone.length (encs (Value.int .i64) gone)) (j : Nat) (hj : j < gone.length) (x : Int) (he : gone[j] = x) : w.cell? ⟨g, j, none⟩ = some (.int .i64 x) := by
  obtain ⟨g', e, hx⟩ := gone_cell h j hj x he
  cases e
  exact hx
theorem JF.below {w0 w w1 : World} {G : Nat} {hs : List Value} {rows : List (List Int)} {vg : Value} {gone : List Int} {todo : List Nat} {n d : Nat} {want : List (List Int)} (J : JF w0 w G hs rows vg gone todo n d want) (hb : Below w.heap.size w w1) : JF w0 w1 G hs rows vg gone todo n d want :=
  ⟨J.B.trans (hb.mono J.B.size), J.O.below hb, pw_own_below J.g hb, J.good, J.len, J.par⟩
theorem JF.set {w0 w : World} {G i : Nat} {hs : List Value} {rows : List (List Int)} {v vg : Value} {gone : List Int} {todo : List Nat} {n d : Nat} {want : List (List Int)} {r : List Int} (J : JF w0 w G hs rows vg gone (i :: todo) n d want) (hid : d ≤ i) (hi : i < d + 2) (hv : BR w w0.heap.size v r)
    (hne : ∀ (j : Nat) (g : Value) (k : Nat), hs[j]? = some g → g.ownBlock = some k → v.ownBlock ≠ some k) (hr : r = if i = d then sumP (rows.take d) n else sumQ (rows.take d) n) : JF w0 (w.setCell ⟨G, i, none⟩ v) G (hs.set i v) (rows.set i r) vg gone todo n d want := by
  have hG := J.O.baseG
  have hgd : GoodR n (rows.take d) := good_take J.good
  refine ⟨J.B.setCell (p := ⟨G, i, none⟩) hG v, J.O.set (by rw [J.len]; exact hi) hv hne, own_move J.g (fun k e => Below.heap_setCell w ⟨G, i, none⟩ v k (fun e2 => ?_)), good_set J.good ?_, by rw [List.length_set]; exact J.len, ?_⟩
  · rcases own_type_ne J.g J.O.head (by decide) with h1 | h1
    · rw [h1] at e; cases e
    · exact h1 (by rw [e, e2]; rfl)
  · rw [hr]
    split
    · exact ⟨sumP_len _ _, bytes_sumP _ _ (fun q hq => (hgd q hq).2)⟩
    · exact ⟨sumQ_len _ _, bytes_sumQ _ _ (fun q hq => (hgd q hq).2)⟩
  · have := J.par
    rw [hr]
    simpa [parR, hid] using this
def JJ (w0 : World) (A A' : Option Addr) (c c' : Nat) (L : List (List Int)) (lost gone : List Int) (n d : Nat) (want : List (List Int)) (a : Act) (w : World) : Prop :=
  ∃ (G : Nat) (hs : List Value) (rows : List (List Int)) (vg : Value) (u : Nat → Value), a = ⟨#[.slice A L.length c, .slice A' lost.length c', u 2, u 3, u 4, u 5, .int .i64 (n : Int), u 7, .slice (some ⟨G, 0, none⟩) L.length L.length, .int .i64 (d : Int), vg, u 11, u 12, u 13, u 14, u 15, u 16, u 17, u 18, u 19, u 20, u 21, u 22, u 23, u 24, u 25, u 26, u 27, u 28, u 29, u 30, u 31, u 32, u 33, u 34, u 35, u 36, u 37, u 38, u 39, u 40, u 41, u 42, u 43, u 44, u 45, u 46, u 47, u 48, u 49, u 50, u 51, u 52, u 53, u 54, u 55, u 56, u 57, u 58, u 59, u 60, u 61, u 62, u 63, u 64, u 65, u 66, u 67, u 68, u 69, u 70, u 71, u 72, u 73, u 74, u 75, u 76, u 77, u 78, u 79, u 80, u 81, u 82, u 83, u 84, u 85, u 86, u 87, u 88, u 89, u 90, u 91, u 92, u 93, u 94, u 95, u 96, u 97, u 98, u 99, u 100, u 101, u 102, u 103, u 104, u 105, u 106, u 107, u 108, u 109, u 110, u 111, u 112, u 113, u 114, u 115, u 116, u 117, u 118, u 119, u 120, u 121, u 122, u 123, u 124, u 125, u 126, u 127, u 128, u 129, u 130, u 131, u 132, u 133, u 134, u 135, u 136, u 137, u 138, u 139, u 140, u 141, u 142, u 143, u 144, u 145, u 146, u 147, u 148], []⟩ ∧ Hid (JF w0 w G hs rows vg gone (gone.map Int.toNat) n d want)
theorem JJ_of {w0 w : World} {A A' : Option Addr} {c c' : Nat} {L : List (List Int)} {lost gone : List Int} {n d : Nat} {want : List (List Int)} {a : Act} {G : Nat} {hs : List Value} {rows : List (List Int)} {vg : Value}
    (h : a = ⟨#[.slice A L.length c, .slice A' lost.length c', a.tmps.getD 2 undef, a.tmps.getD 3 undef, a.tmps.getD 4 undef, a.tmps.getD 5 undef, .int .i64 (n : Int), a.tmps.getD 7 undef, .slice (some ⟨G, 0, none⟩) L.length L.length, .int .i64 (d : Int), vg, a.tmps.getD 11 undef, a.tmps.getD 12 undef, a.tmps.getD 13 undef, a.tmps.getD 14 undef, a.tmps.getD 15 undef, a.tmps.getD 16 undef, a.tmps.getD 17 undef, a.tmps.getD 18 undef, a.tmps.getD 19 undef, a.tmps.getD 20 undef, a.tmps.getD 21 undef, a.tmps.getD 22 undef, a.tmps.getD 23 undef, a.tmps.getD 24 undef, a.tmps.getD 25 undef, a.tmps.getD 26 undef, a.tmps.getD 27 undef, a.tmps.getD 28 undef, a.tmps.getD 29 undef, a.tmps.getD 30 undef, a.tmps.getD 31 undef, a.tmps.getD 32 undef, a.tmps.getD 33 undef, a.tmps.getD 34 undef, a.tmps.getD 35 undef, a.tmps.getD 36 undef, a.tmps.getD 37 undef, a.tmps.getD 38 undef, a.tmps.getD 39 undef, a.tmps.getD 40 undef, a.tmps.getD 41 undef, a.tmps.getD 42 undef, a.tmps.getD 43 undef, a.tmps.getD 44 undef, a.tmps.getD 45 undef, a.tmps.getD 46 undef, a.tmps.getD 47 undef, a.tmps.getD 48 undef, a.tmps.getD 49 undef, a.tmps.getD 50 undef, a.tmps.getD 51 undef, a.tmps.getD 52 undef, a.tmps.getD 53 undef, a.tmps.getD 54 undef, a.tmps.getD 55 undef, a.tmps.getD 56 undef, a.tmps.getD 57 undef, a.tmps.getD 58 undef, a.tmps.getD 59 undef, a.tmps.getD 60 undef, a.tmps.getD 61 undef, a.tmps.getD 62 undef, a.tmps.getD 63 undef, a.tmps.getD 64 undef, a.tmps.getD 65 undef, a.tmps.getD 66 undef, a.tmps.getD 67 undef, a.tmps.getD 68 undef, a.tmps.getD 69 undef, a.tmps.getD 70 undef, a.tmps.getD 71 undef, a.tmps.getD 72 undef, a.tmps.getD 73 undef, a.tmps.getD 74 undef, a.tmps.getD 75 undef, a.tmps.getD 76 undef, a.tmps.getD 77 undef, a.tmps.getD 78 undef, a.tmps.getD 79 undef, a.tmps.getD 80 undef, a.tmps.getD 81 undef, a.tmps.getD 82 undef, a.tmps.getD 83 undef, a.tmps.getD 84 undef, a.tmps.getD 85 undef, a.tmps.getD 86 undef, a.tmps.getD 87 undef, a.tmps.getD 88 undef, a.tmps.getD 89 undef, a.tmps.getD 90 undef, a.tmps.getD 91 undef, a.tmps.getD 92 undef, a.tmps.getD 93 undef, a.tmps.getD 94 undef, a.tmps.getD 95 undef, a.tmps.getD 96 undef, a.tmps.getD 97 undef, a.tmps.getD 98 undef, a.tmps.getD 99 undef, a.tmps.getD 100 undef, a.tmps.getD 101 undef, a.tmps.getD 102 undef, a.tmps.getD 103 undef, a.tmps.getD 104 undef, a.tmps.getD 105 undef, a.tmps.getD 106 undef, a.tmps.getD 107 undef, a.tmps.getD 108 undef, a.tmps.getD 109 undef, a.tmps.getD 110 undef, a.tmps.getD 111 undef, a.tmps.getD 112 undef, a.tmps.getD 113 undef, a.tmps.getD 114 undef, a.tmps.getD 115 undef, a.tmps.getD 116 undef, a.tmps.getD 117 undef, a.tmps.getD 118 undef, a.tmps.getD 119 undef, a.tmps.getD 120 undef, a.tmps.getD 121 undef, a.tmps.getD 122 undef, a.tmps.getD 123 undef, a.tmps.getD 124 undef, a.tmps.getD 125 undef, a.tmps.getD 126 undef, a.tmps.getD 127 undef, a.tmps.getD 128 undef, a.tmps.getD 129 undef, a.tmps.getD 130 undef, a.tmps.getD 131 undef, a.tmps.getD 132 undef, a.tmps.getD 133 undef, a.tmps.getD 134 undef, a.tmps.getD 135 undef, a.tmps.getD 136 undef, a.tmps.getD 137 undef, a.tmps.getD 138 undef, a.tmps.getD 139 undef, a.tmps.getD 140 undef, a.tmps.getD 141 undef, a.tmps.getD 142 undef, a.tmps.getD 143 undef, a.tmps.getD 144 undef, a.tmps.getD 145 undef, a.tmps.getD 146 undef, a.tmps.getD 147 undef, a.tmps.getD 148 undef], []⟩) (hJ : JF w0 w G hs rows vg gone (gone.map Int.toNat) n d want) : JJ w0 A A' c c' L lost gone n d want a w := ⟨G, hs, rows, vg, fun k => a.tmps.getD k undef, h, Lib.hid hJ⟩
theorem JF_of {w0 w : World} {G n d : Nat} {hs : List Value} {rows want : List (List Int)} {vp vq vg : Value} {p q gone : List Int} (F : FS w0 w G hs rows vp p vq q vg gone) (hg : GoodR n rows) (hl : rows.length = d + 2) (hp : parR rows (gone.map Int.toNat) d n = want) : JF w0 w G hs rows vg gone (gone.map Int.toNat) n d want := ⟨F.B, F.O, F.g, hg, hl, hp⟩
set_option maxRecDepth 100000 in
set_option maxHeartbeats 4000000 in
theorem fix_true (A A' : Option Addr) (c c' : Nat) (L : List (List Int)) (lost : List Int) (w : World) (hm : L.length ≤ 1000000) (hm' : lost.length ≤ 1000000) (hr : Kd.C (Kd.slice 5 (Kd.int .u8)) w A L.length L) (ho : Kd.C (Kd.int .i64) w A' lost.length lost) (hc : L.length ≤ c) (hc' : lost.length ≤ c')
    (hb : ∀ r ∈ L, Bytes r) (hl : ∀ r ∈ L, r.length ≤ 1000000) (hmay : mayB L lost = true) :
    Calls Try.prog 58 #[.slice A L.length c, .slice A' lost.length c'] w fun e w' => ∃ v, e = .returned (.tuple #[v, .bool true]) ∧ Kd.N (Kd.slice 5 (Kd.int .u8)) 47 w' w.heap.size (fun k => w.heap.size ≤ k) v (fixR L lost) ∧ Below w.heap.size w w' := by
  obtain ⟨m1, m2, m3, m4, m5, m6⟩ := may_facts hmay
  have HM := Lib.hid (may_any A A' c c' L lost w hm hm' hr ho hc hc')
  rw [hmay] at HM
  have hnl := lenR_le (lost := lost) hl
  have HK := Lib.hid (kept_len m6)
  obtain ⟨n, hn⟩ : ∃ n, n = lenR (kept L lost) := ⟨_, rfl⟩
  rw [← hn] at HM HK hnl
  have HN := Lib.hid hn
  have GO := Lib.hid (gone_of m3 m4 m5)
  obtain ⟨gone, hgone⟩ : ∃ g, srt lost = g := ⟨_, rfl⟩
  have GA : Hid (gone.length ≤ 2 ∧ ∀ j (h : j < gone.length), ∃ i : Nat, gone[j] = (i : Int) ∧ i < L.length) := by
    subst hgone
    exact Lib.hid (gone_all m3 m4 m5)
  rw [hgone] at GO
  have HGone := Lib.hid hgone
  clear hgone
  have HR := Lib.hid hr
  have HO := Lib.hid ho
  have HG := Lib.hid (own_good hb HK.out)
  clear hr ho hn m4 m5 m6 hmay hb hl
  obtain ⟨d, hd⟩ : ∃ d : Nat, L.length = d + 2 := ⟨L.length - 2, by omega⟩
  have hd1 : (L.length : Int) - 2 = (d : Int) := by omega
  have HD := Lib.hid hd
  clear hd
  go_enter Try.func58, Try.ntmps58
  go_wp2
  refine wp_scope_fwd 0 (JJ w A A' c c' L lost gone n d (fixR L lost)) rfl ?tail ?first
  case tail =>
    clear HM GO HG
    rintro a w1 ⟨G, hs, rows, vg, u, rfl, HJ⟩
    obtain ⟨Ag, cg, rfl⟩ := own_slice HJ.out.g
    go_wp2_with fail
    go_loopw [121] (fun i wr => ∃ (j : Nat) (hs' : List Value) (rows' : List (List Int)), i = .int .i64 j ∧ j ≤ gone.length ∧ Hid (JF w wr G hs' rows' (.slice Ag gone.length cg) gone ((gone.drop j).map Int.toNat) n d (fixR L lost))) (fun i _ => gone.length - (intOf i).toNat)
    case atStart => exact ⟨0, hs, rows, rfl, Nat.zero_le _, by simpa using HJ⟩
    case round =>
      clear HJ
      obtain ⟨j, hs', rows', rfl, hj, HJ⟩ := hrel
      have hgl : gone.length ≤ 2 := GA.out.1
      have hj1 : wrap64 ((j : Int) + 1) = ((j + 1 : Nat) : Int) := by rw [w64 (by omega) (by omega)]; rfl
      by_cases hjl : j < gone.length
      · obtain ⟨i, hgi, hiL⟩ := GA.out.2 j hjl
        obtain ⟨g, e, hx⟩ := gone_cell HJ.out.g j hjl _ hgi
        subst e
        have HDR := Lib.hid (show (gone.drop j).map Int.toNat = i :: (gone.drop (j + 1)).map Int.toNat from by rw [List.drop_eq_getElem_cons hjl, List.map_cons, hgi]; rfl)
        rw [HDR.out] at HJ
        clear hgi
        by_cases hid : d ≤ i
        · have hrl := HJ.out.len
          have hcs := HD.out
          have HS := Lib.hid (sums_any (some ⟨G, 0, none⟩) d L.length n (rows'.take d) wr (by rw [List.length_take]; omega) (by have := HJ.out.O.C (m := d) (by omega); rwa [List.length_take, Nat.min_eq_left (by omega)] at this) (by omega) (good_take HJ.out.good) (by rw [List.length_take]; omega) hnl)
          have hdL : d ≤ L.length := by omega
          clear hrl hcs
          go_wp2_with fail
          refine HS.out.mono ?_
          rintro e w2 ⟨x, y, rfl, hx2, hy2, hxy, hb2⟩
          have hGB := HJ.out.B.size
          have HX2 := Lib.hid (show BR w2 w.heap.size x (sumP (rows'.take d) n) from own_weaken hx2 hGB)
          have HY2 := Lib.hid (show BR w2 w.heap.size y (sumQ (rows'.take d) n) from own_weaken hy2 hGB)
          have HXN := Lib.hid (fun (q : Nat) (h : Value) (k : Nat) (hq : hs'[q]? = some h) (hk : h.ownBlock = some k) => (show x.ownBlock ≠ some k from fun h3 => by
            have h4 := (List.getElem?_eq_some_iff.1 hq).1
            have h5 := HJ.out.O.len
            have h6 := own_lt (HJ.out.O.row q h _ hq (List.getElem?_eq_getElem (by omega))) k hk
            have h7 := own_base hx2 k h3
            omega))
          have HYN := Lib.hid (fun (q : Nat) (h : Value) (k : Nat) (hq : hs'[q]? = some h) (hk : h.ownBlock = some k) => (show y.ownBlock ≠ some k from fun h3 => by
            have h4 := (List.getElem?_eq_some_iff.1 hq).1
            have h5 := HJ.out.O.len
            have h6 := own_lt (HJ.out.O.row q h _ hq (List.getElem?_eq_getElem (by omega))) k hk
            have h7 := own_base hy2 k h3
            omega))
          have HJ2 := Lib.hid (HJ.out.below hb2)
          obtain ⟨hz, hzi⟩ := HJ2.out.O.get (i := i) (by have := HJ2.out.len; have := HD.out; omega)
          obtain ⟨Ax, cx, ex, _⟩ := HX2.out.slice
          obtain ⟨Ay, cy, ey, _⟩ := HY2.out.slice
          rw [sumP_len] at ex
          rw [sumQ_len] at ey
          subst ex ey
          have HA := Lib.hid (HJ2.out.below (below_alloc (Below.refl _ w2) (.cells #[.slice Ax n cx, .slice Ay n cy] 47)))
          have HXA := Lib.hid (HX2.out.below (below_alloc (Below.refl _ w2) (.cells #[.slice Ax n cx, .slice Ay n cy] 47)))
          have HYA := Lib.hid (HY2.out.below (below_alloc (Below.refl _ w2) (.cells #[.slice Ax n cx, .slice Ay n cy] 47)))
          have hcz := HA.out.O.cell hzi
          have hfz := HA.out.O.frozen i
          clear hx2 hy2 hxy hb2 HJ HX2 HY2 HJ2 hGB
          have hi2 : i = d ∨ i = d + 1 := by have := HD.out; omega
          rcases hi2 with rfl | rfl
          · go_wp2_with fail
            go_roundw
            case rel => exact ⟨j + 1, _, _, by simp, by omega, Lib.hid (HA.out.set (by omega) (by omega) HXA.out HXN.out (by rw [if_pos rfl]))⟩
            case measure => simp [intOf]; omega
          · go_wp2_with fail
            go_roundw
            case rel => exact ⟨j + 1, _, _, by simp, by omega, Lib.hid (HA.out.set (by omega) (by omega) HYA.out HYN.out (by rw [if_neg (by omega)]))⟩
            case measure => simp [intOf]; omega
        · go_wp2_with fail
          go_roundw
          case rel => exact ⟨j + 1, hs', rows', by simp, by omega, Lib.hid ⟨HJ.out.B, HJ.out.O, HJ.out.g, HJ.out.good, HJ.out.len, by have := HJ.out.par; simpa [parR, hid] using this⟩⟩
          case measure => simp [intOf]; omega
      · obtain rfl : j = gone.length := by omega
        have hpar := HJ.out.par
        rw [List.drop_length] at hpar
        have HPAR := Lib.hid (show rows' = fixR L lost from hpar)
        clear hpar
        go_wp2_with fail
        rw [Exit.noGoto_ret]
        refine bodyPost_ret (results_tmp2 rfl _ _ _) rfl ⟨_, rfl, ?_, HJ.out.B⟩
        have hN := HJ.out.O.N
        rw [HJ.out.len, HPAR.out] at hN
        rw [HD.out]
        exact hN
  case first =>
    intro ht
    have HT := Lib.hid ht
    clear ht
    go_wp2_with fail
    refine HM.out.mono ?_
    rintro e w1 ⟨r, rfl, hrn, hb1⟩
    obtain rfl : r = (n : Int) := hrn trivial
    have HB1 := Lib.hid hb1
    clear hrn hb1
    go_wp2_with fail
    refine (own_any A A' c c' n L lost w1 hm hm' hnl (Kd.C_below HR.out HB1.out) (Kd.C_below HO.out HB1.out) hc' HK.out).mono ?_
    rintro e w2 ⟨G, hs, rfl, O2, hb2⟩
    have HO2 := Lib.hid O2
    have HB2 := Lib.hid (HB1.out.trans (hb2.mono HB1.out.size))
    have HB12 := Lib.hid (HB1.out.size)
    clear O2 hb2
    go_wp2_with fail
    refine (Go.Proofs.Ytibileffpgnjhaa.So.values_any A' lost.length c' w2).mono ?_
    rintro e w3 ⟨rfl, hw3⟩
    have HB3 := Lib.hid (show Below w2.heap.size w2 w3 from by rw [hw3]; exact below_alloc (Below.refl _ _) _)
    have hsz3 : w2.heap.size < w3.heap.size := by rw [hw3]; simp
    have fs3 : w3.cell? ⟨w2.heap.size, 0, none⟩ = some (.slice A' lost.length c') := by rw [hw3]; have := cell_one_new w2 (.slice A' lost.length c') 34 0 _ rfl; rwa [add_plain] at this
    have HS3 := Lib.hid (sorted_any w2.heap.size A' c' lost m3 w3 hsz3 fs3 (Kd.C_below HO.out (HB2.out.trans (HB3.out.mono HB2.out.size))))
    clear hw3 hsz3 fs3
    go_wp2_with fail
    refine HS3.out.mono ?_
    rintro e w4 ⟨vg, rfl, hg4, hb4⟩
    have HO4 := Lib.hid ((HO2.out.below HB3.out).below hb4)
    have HB4 := Lib.hid ((HB2.out.trans (HB3.out.mono HB2.out.size)).trans (hb4.mono ((HB2.out.trans (HB3.out.mono HB2.out.size)).size)))
    have HG4 := Lib.hid (show w4.ownsRow w.heap.size 3 1 vg gone.length (encs (Value.int .i64) gone) from by rw [← HGone.out]; exact own_weaken (Kd.own_of_R hg4) (Nat.le_trans HB2.out.size HB3.out.size))
    have hge4 : w.heap.size ≤ w4.heap.size := HB4.out.size
    clear HB3 HS3 HO2 HB2 hg4 hb4
    have hdL : d ≤ L.length := by omega
    have HOw := Lib.hid (show Out w4 w.heap.size G hs (ownR L lost n) from ⟨own_weaken HO4.out.head HB12.out, fun i h r h1 h2 => own_weaken (HO4.out.row i h r h1 h2) HB12.out, HO4.out.apart, HO4.out.max⟩)
    clear HO4
    have hol := own_len L lost n
    have HS := Lib.hid (sums_any (some ⟨G, 0, none⟩) d L.length n ((ownR L lost n).take d) w4 (by rw [List.length_take]; omega) (by have := HOw.out.C (m := d) (by omega); rwa [List.length_take, Nat.min_eq_left (by omega)] at this) (by omega) (good_take HG.out) (by rw [List.length_take]; omega) hnl)
    clear hol
    go_wp2_with fail
    refine HS.out.mono ?_
    rintro e w5 ⟨vp, vq, rfl, hp5, hq5, hpq, hb5⟩
    have HPQ := Lib.hid hpq
    have hbes : ∀ (v : Value) (r : List Int), BR w5 w4.heap.size v r → Beside w5 w.heap.size hs v r := fun v r hv => ⟨own_weaken hv hge4, fun j g k hj hk h3 => by
      have h4 := (List.getElem?_eq_some_iff.1 hj).1
      have h5 := HOw.out.len
      have h6 := own_lt (HOw.out.row j g _ hj (List.getElem?_eq_getElem (by omega))) k hk
      have h7 := own_base hv k h3
      omega⟩
    have F5 := Lib.hid (show FS w w5 G hs (ownR L lost n) vp (sumP ((ownR L lost n).take d) n) vq (sumQ ((ownR L lost n).take d) n) vg gone from ⟨HB4.out.trans (hb5.mono HB4.out.size), HOw.out.below hb5, hbes _ _ hp5, hbes _ _ hq5, pw_own_below HG4.out hb5⟩)
    clear hbes hp5 hq5 hpq hb5 HOw HG4 HS HB4
    obtain ⟨hD, hdi⟩ := F5.out.O.get (i := d) (by rw [own_len]; omega)
    obtain ⟨hE, hei⟩ := F5.out.O.get (i := d + 1) (by rw [own_len]; omega)
    have HDI := Lib.hid hdi
    have HEI := Lib.hid hei
    clear hdi hei
    have hdl : d < L.length := by omega
    have hel : d + 1 < L.length := by omega
    have hB1 : Byt 1 := ⟨by omega, by omega⟩
    have HBy1 := Lib.hid hB1
    clear hB1
    have hRD := Lib.hid (Tw.good_row HG.out (i := d) (by rw [own_len]; omega))
    have hRE := Lib.hid (Tw.good_row HG.out (i := d + 1) (by rw [own_len]; omega))
    have HSP := Lib.hid (show (sumP ((ownR L lost n).take d) n).length = n ∧ Bytes (sumP ((ownR L lost n).take d) n) from ⟨sumP_len _ _, bytes_sumP _ _ (fun q hq => (good_take HG.out q hq).2)⟩)
    have HSQ := Lib.hid (show (sumQ ((ownR L lost n).take d) n).length = n ∧ Bytes (sumQ ((ownR L lost n).take d) n) from ⟨sumQ_len _ _, bytes_sumQ _ _ (fun q hq => (good_take HG.out q hq).2)⟩)
    have hcd := F5.out.O.cell HDI.out
    have HrowD := Lib.hid (fun (w' : World) (hO : Out w' w.heap.size G hs (ownR L lost n)) => (show BR w' w.heap.size hD (row (ownR L lost n) d) from by rw [row_lt (by rw [own_len]; omega)]; exact hO.row d hD _ HDI.out (List.getElem?_eq_getElem _)))
    have HrowE := Lib.hid (fun (w' : World) (hO : Out w' w.heap.size G hs (ownR L lost n)) => (show BR w' w.heap.size hE (row (ownR L lost n) (d + 1)) from by rw [row_lt (by rw [own_len]; omega)]; exact hO.row (d + 1) hE _ HEI.out (List.getElem?_eq_getElem _)))
    go_wp2_with fail
    refine (add_any F5.out.B F5.out.P.1 (HrowD.out _ F5.out.O) (fun k h => F5.out.P.2 d hD k HDI.out h) (by rw [hRD.out.1, HSP.out.1]; exact Nat.le_refl _) (by rw [hRD.out.1]; exact hnl) HSP.out.2 hRD.out.2 HBy1.out).mono ?_
    rintro e w6 ⟨rfl, p6, b6, k6⟩
    have F6 := Lib.hid (fs_addP F5.out HPQ.out b6 k6 p6)
    clear p6 b6 k6 F5 hcd
    have hce := F6.out.O.cell HEI.out
    go_wp2_with fail
    refine (add_any F6.out.B F6.out.Q.1 (HrowE.out _ F6.out.O) (fun k h => F6.out.Q.2 (d + 1) hE k HEI.out h) (by rw [hRE.out.1, HSQ.out.1]; exact Nat.le_refl _) (by rw [hRE.out.1]; exact hnl) HSQ.out.2 hRE.out.2 HBy1.out).mono ?_
    rintro e w7 ⟨rfl, q7, b7, k7⟩
    have F7 := Lib.hid (fs_addQ F6.out HPQ.out b7 k7 q7)
    have HP7 := Lib.hid (show (addR (sumP ((ownR L lost n).take d) n) (row (ownR L lost n) d) 1).length = n ∧ Bytes (addR (sumP ((ownR L lost n).take d) n) (row (ownR L lost n) d) 1) from good_add HSP.out hRD.out.2 HBy1.out)
    have HQ7 := Lib.hid (show (addR (sumQ ((ownR L lost n).take d) n) (row (ownR L lost n) (d + 1)) 1).length = n ∧ Bytes (addR (sumQ ((ownR L lost n).take d) n) (row (ownR L lost n) (d + 1)) 1) from good_add HSQ.out hRE.out.2 HBy1.out)
    clear q7 b7 k7 F6 hce
    have HX := Lib.hid (show fixR L lost = parR (dataR (ownR L lost n) (gone.map Int.toNat) d (addR (sumP ((ownR L lost n).take d) n) (row (ownR L lost n) d) 1) (addR (sumQ ((ownR L lost n).take d) n) (row (ownR L lost n) (d + 1)) 1)) (gone.map Int.toNat) d n from by
      have h1 : L.length - 2 = d := by have := HD.out; omega
      unfold fixR
      rw [← HN.out, h1, HGone.out])
    generalize addR (sumP ((ownR L lost n).take d) n) (row (ownR L lost n) d) 1 = p at F7 HP7 HX
    generalize addR (sumQ ((ownR L lost n).take d) n) (row (ownR L lost n) (d + 1)) 1 = q at F7 HQ7 HX
    have hol := own_len L lost n
    generalize ownR L lost n = R at F7 HX HG hol
    have HOL := Lib.hid hol
    clear hol HrowD HrowE HSP HSQ hRD hRE HDI HEI
    obtain ⟨Ag, cg, rfl⟩ := own_slice F7.out.g
    have HL2 := Lib.hid (show R.length = d + 2 from by rw [HOL.out, HD.out])
    have HWant := Lib.hid HX.out.symm
    clear HX HGone HN
    rcases GO.out with rfl | ⟨a, rfl, ha⟩ | ⟨a, b, rfl, hab, hbL⟩
    · clear GO GA
      go_wp2_with fail
      go_step3
      exact ⟨rfl, JJ_of rfl (JF_of F7.out HG.out HL2.out HWant.out)⟩
    · clear GO GA
      obtain ⟨g, e, hx⟩ := gone_cell F7.out.g 0 (by simp) (a : Int) rfl
      subst e
      by_cases had : d ≤ a
      · go_wp2_with fail
        go_step3
        exact ⟨rfl, JJ_of rfl (JF_of F7.out HG.out HL2.out (by rw [← HWant.out]; simp [dataR, had]))⟩
      · obtain ⟨hA, hai⟩ := F7.out.O.get (i := a) (by rw [HOL.out]; exact ha)
        have HAI := Lib.hid hai
        have hca := F7.out.O.cell HAI.out
        clear hai
        go_wp2_with fail
        refine (out_add F7.out.B F7.out.O HAI.out F7.out.P (by rw [(Tw.good_row HG.out (by rw [HOL.out]; exact ha)).1, HP7.out.1]; exact Nat.le_refl _) (by rw [HP7.out.1]; exact hnl) (Tw.good_row HG.out (by rw [HOL.out]; exact ha)).2 HP7.out.2 HBy1.out).mono ?_
        rintro e w8 ⟨rfl, O8, B8, K8⟩
        have F8 := Lib.hid (F7.out.after HAI.out O8 B8 K8)
        clear O8 B8 K8
        have G8 := Lib.hid (good_set HG.out (i := a) (good_add (Tw.good_row HG.out (by rw [HOL.out]; exact ha)) HP7.out.2 HBy1.out))
        have W8 := Lib.hid (show parR (R.set a (addR (row R a) p 1)) (([(a : Int)] : List Int).map Int.toNat) d n = fixR L lost from by rw [← HWant.out]; simp [dataR, had])
        go_wp2_with fail
        go_step3
        simp only [Exit.then]
        apply_assumption
        refine Code.wp_mono (fun e a w h => ?_) (HT.out _ _ ?_)
        · cases e <;> first | exact h | exact (h : False).elim
        · exact JJ_of rfl (JF_of F8.out G8.out (by rw [List.length_set]; exact HL2.out) W8.out)
    · clear GO GA
      obtain ⟨g, e, hx⟩ := gone_cell F7.out.g 0 (by simp) (a : Int) rfl
      subst e
      obtain ⟨g', e, hy⟩ := gone_cell F7.out.g 1 (by simp) (b : Int) rfl
      cases e
      by_cases had : d ≤ a
      · go_wp2_with fail
        go_step3
        exact ⟨rfl, JJ_of rfl (JF_of F7.out HG.out HL2.out (by rw [← HWant.out]; simp [dataR, had]))⟩
      · have haL : a < L.length := by omega
        obtain ⟨hA, hai⟩ := F7.out.O.get (i := a) (by rw [HOL.out]; exact haL)
        have HAI := Lib.hid hai
        have hca := F7.out.O.cell HAI.out
        clear hai
        have HRA := Lib.hid (Tw.good_row HG.out (i := a) (by rw [HOL.out]; exact haL))
        by_cases hbd : b < d
        · have hxd : w7.drew.cell? ⟨g, 0, none⟩ = some (.int .i64 (a : Int)) := hx
          have hyd : w7.drew.cell? ⟨g, 1, none⟩ = some (.int .i64 (b : Int)) := hy
          have HTwo := Lib.hid (two_any (a := a) (b := b) F7.out.drew (by rw [HOL.out]; exact haL) (by rw [HOL.out]; exact hbL) (by omega) (by rw [HOL.out]; exact m2) HG.out HP7.out HQ7.out hnl)
          rw [HOL.out] at HTwo
          go_wp2_with fail
          go_region_held3 (fun w' => w'.cell? ⟨g, 0, none⟩ = some (.int .i64 (a : Int)) ∧ w'.cell? ⟨g, 1, none⟩ = some (.int .i64 (b : Int)))
            (first | with_reducible exact ⟨hxd, hyd⟩ | with_reducible exact ⟨hx8, hy8⟩)
            ((go_at_call 71; (with_reducible refine HTwo.out.mono ?_); rintro e w8 ⟨rfl, h8⟩; have F8 := Lib.hid h8; have hx8 := gone_at F8.out.g 0 (by simp) (a : Int) rfl; have hy8 := gone_at F8.out.g 1 (by simp) (b : Int) rfl; clear h8))
          have G8 := Lib.hid (good_two HG.out (by rw [HOL.out]; exact haL) (by rw [HOL.out]; exact hbL) HP7.out HQ7.out)
          have W8 := Lib.hid (show parR (twoR R a b p q) (([(a : Int), (b : Int)] : List Int).map Int.toNat) d n = fixR L lost from by rw [← HWant.out]; simp [dataR, had, hbd])
          clear hx8 hy8 hxd hyd hx hy hca
          go_wp2_with fail
          go_step3
          simp only [Exit.then]
          apply_assumption
          refine Code.wp_mono (fun e a w h => ?_) (HT.out _ _ ?_)
          · cases e <;> first | exact h | exact (h : False).elim
          · exact JJ_of rfl (JF_of F8.out G8.out (by rw [two_len]; exact HL2.out) W8.out)
        · by_cases hbe : b = d
          · have hbI : (b : Int) = (d : Int) := by omega
            have hxd : w7.drew.cell? ⟨g, 0, none⟩ = some (.int .i64 (a : Int)) := hx
            have hcd : w7.drew.cell? ⟨G, a, none⟩ = some hA := hca
            have hne : expI a ≠ 0 := by
              intro h
              exact pw_ne_zero a (by unfold expI at h; omega)
            have HNE := Lib.hid hne
            clear hne
            have ha255 : a < 255 := by omega
            go_wp2_with fail
            go_region_held3 (fun w' => w'.cell? ⟨g, 0, none⟩ = some (.int .i64 (a : Int)) ∧ w'.cell? ⟨G, a, none⟩ = some hA)
              (first | with_reducible exact ⟨hxd, hcd⟩ | with_reducible exact ⟨hx8, hc8⟩ | with_reducible exact ⟨hx9, hc9⟩ | with_reducible exact ⟨hxA, hcA⟩)
              (first
                | (go_at_call 64; (with_reducible refine (exp_any a ha255 _).mono ?_); rintro e w8 ⟨rfl, hb8⟩; have F8 := Lib.hid (F7.out.drew.below hb8); have hx8 := gone_at F8.out.g 0 (by simp) (a : Int) rfl; have hc8 := F8.out.O.cell HAI.out)
                | (go_at_call 72; (with_reducible refine (inv_any (expI a) (byt_exp a) HNE.out _).mono ?_); rintro e w9 ⟨rfl, hb9⟩; have F9 := Lib.hid (F8.out.below hb9); have hx9 := gone_at F9.out.g 0 (by simp) (a : Int) rfl; have hc9 := F9.out.O.cell HAI.out)
                | (go_at_call 70; (with_reducible refine (out_add F9.out.B F9.out.O HAI.out F9.out.Q (by rw [HRA.out.1, HQ7.out.1]; exact Nat.le_refl _) (by rw [HQ7.out.1]; exact hnl) HRA.out.2 HQ7.out.2 (byt_inv (byt_exp a))).mono ?_); rintro e wA ⟨rfl, OA, BA, KA⟩; have FA := Lib.hid (F9.out.after HAI.out OA BA KA); have hxA := gone_at FA.out.g 0 (by simp) (a : Int) rfl; have hcA := FA.out.O.cell HAI.out; clear OA BA KA))
            have G8 := Lib.hid (good_set HG.out (i := a) (good_add HRA.out HQ7.out.2 (byt_inv (byt_exp a))))
            have W8 := Lib.hid (show parR (R.set a (addR (row R a) q (invI (expI a)))) (([(a : Int), (b : Int)] : List Int).map Int.toNat) d n = fixR L lost from by rw [← HWant.out]; simp [dataR, had, hbd, hbe])
            clear hxA hcA hx9 hc9 hx8 hc8 hxd hcd hx hy hca
            go_wp2_with fail
            go_step3
            simp only [Exit.then]
            apply_assumption
            refine Code.wp_mono (fun e a w h => ?_) (HT.out _ _ ?_)
            · cases e <;> first | exact h | exact (h : False).elim
            · exact JJ_of rfl (JF_of FA.out G8.out (by rw [List.length_set]; exact HL2.out) W8.out)
          · have hbn : ¬ ((b : Int) = (d : Int)) := by omega
            go_wp2_with fail
            refine (out_add F7.out.B F7.out.O HAI.out F7.out.P (by rw [HRA.out.1, HP7.out.1]; exact Nat.le_refl _) (by rw [HP7.out.1]; exact hnl) HRA.out.2 HP7.out.2 HBy1.out).mono ?_
            rintro e w8 ⟨rfl, O8, B8, K8⟩
            have F8 := Lib.hid (F7.out.after HAI.out O8 B8 K8)
            clear O8 B8 K8
            have G8 := Lib.hid (good_set HG.out (i := a) (good_add HRA.out HP7.out.2 HBy1.out))
            have W8 := Lib.hid (show parR (R.set a (addR (row R a) p 1)) (([(a : Int), (b : Int)] : List Int).map Int.toNat) d n = fixR L lost from by rw [← HWant.out]; simp [dataR, had, hbd, hbe])
            go_wp2_with fail
            go_step3
            simp only [Exit.then]
            apply_assumption
            refine Code.wp_mono (fun e a w h => ?_) (HT.out _ _ ?_)
            · cases e <;> first | exact h | exact (h : False).elim
            · exact JJ_of rfl (JF_of F8.out G8.out (by rw [List.length_set]; exact HL2.out) W8.out)
theorem fix_false (A A' : Option Addr) (c c' : Nat) (L : List (List Int)) (lost : List Int) (w : World) (hm : L.length ≤ 1000000) (hm' : lost.length ≤ 1000000) (hr : Kd.C (Kd.slice 5 (Kd.int .u8)) w A L.length L) (ho : Kd.C (Kd.int .i64) w A' lost.length lost) (hc : L.length ≤ c) (hc' : lost.length ≤ c')
    (hmay : mayB L lost = false) :
    Calls Try.prog 58 #[.slice A L.length c, .slice A' lost.length c'] w fun e w' => e = .returned (.tuple #[.slice none 0 0, .bool false]) ∧ Below w.heap.size w w' := by
  have HM := Lib.hid (may_any A A' c c' L lost w hm hm' hr ho hc hc')
  rw [hmay] at HM
  clear hr ho hc hc' hmay
  go_enter Try.func58, Try.ntmps58
  go_wp2
  refine wp_scope_straight ?_
  go_wp2_with fail
  refine HM.out.mono ?_
  rintro e w1 ⟨r, rfl, _, hb1⟩
  go_wp2_with fail
  rw [Exit.noGoto_ret]
  exact bodyPost_ret (results_tmp2 rfl _ _ _) rfl ⟨rfl, hb1⟩
theorem fix_any (A0 : Option Addr) (c0 : Nat) (l0 : List (List Int)) (A1 : Option Addr) (c1 : Nat) (l1 : List Int) (r1 : List (List Int)) (r2 : Bool) (w : World) (hr0 : Kd.C (Kd.slice 5 (Kd.int .u8)) w A0 l0.length l0) (hc0 : l0.length ≤ c0) (hr1 : Kd.C (Kd.int .i64) w A1 l1.length l1) (hc1 : l1.length ≤ c1) (h : fixF l0 l1 = some (r1, r2)) :
    Calls Try.prog 58 #[.slice A0 l0.length c0, .slice A1 l1.length c1] w fun e w' => ∃ v0_ : Value, e = .returned (.tuple #[v0_, .bool r2]) ∧ Kd.N (Kd.slice 5 (Kd.int .u8)) 47 w' w.heap.size (fun k_ => (w.heap.size ≤ k_)) v0_ r1 ∧ Below w.heap.size w w' := by
  unfold fixF at h
  by_cases hc : (∀ r ∈ l0, ∀ x ∈ r, Byt x) ∧ (∀ r ∈ l0, r.length ≤ 1000000) ∧ l1.length ≤ 1000000 ∧ l0.length ≤ 1000000
  · rw [if_pos hc] at h
    by_cases hmay : mayB l0 l1 = true
    · rw [if_pos hmay] at h
      cases h
      exact fix_true A0 A1 c0 c1 l0 l1 w hc.2.2.2 hc.2.2.1 hr0 hr1 hc0 hc1 hc.1 hc.2.1 hmay
    · rw [if_neg hmay] at h
      cases h
      refine (fix_false A0 A1 c0 c1 l0 l1 w hc.2.2.2 hc.2.2.1 hr0 hr1 hc0 hc1 (Bool.eq_false_iff.2 hmay)).mono ?_
      rintro e w' ⟨rfl, hb⟩
      exact ⟨_, rfl, Kd.N_nil _ _ _ _ _, hb⟩
  · rw [if_neg hc] at h
    cases h
end Go.Proofs.Ytibileffpgnjhaa.Fw
namespace Go.Proofs.Ytibileffpgnjhaa.Lim
open Go.RowKit Go.Proofs.YtibileffpgnjhaaW.PrintWords
noncomputable def lim {α : Type} (g : Nat → Option α) : Option α := open Classical in if h : ∃ r, ∃ k, g k = some r then some (Classical.choose h) else none
theorem lim_some {α : Type} {g : Nat → Option α} {r : α} (h : lim g = some r) : ∃ k, g k = some r := by
  unfold lim at h
  split at h
  · rename_i hc
    have := Classical.choose_spec hc
    simp only [Option.some.injEq] at h
    rw [h] at this
    exact this
  · cases h
theorem lim_ev {α : Type} {g : Nat → Option α} {r : α} (hm : ∀ k, LeO (g k) (g (k + 1))) (h : Ev g r) : lim g = some r := by
  obtain ⟨K, hK⟩ := h
  have hc : ∃ r, ∃ k, g k = some r := ⟨r, K, hK K (Nat.le_refl _)⟩
  unfold lim
  rw [dif_pos hc]
  obtain ⟨k, hk⟩ := Classical.choose_spec hc
  have := at_rounds hm (Nat.le_max_left k K) hk
  rw [hK _ (Nat.le_max_right k K)] at this
  exact this.symm
theorem below_of_drewN {B : Nat} {w w' : World} (h : Drawn0 w w') : Below B w w' := by
  obtain ⟨nd, rfl⟩ := h
  exact pw_below_drewN (Below.refl _ _) nd
end Go.Proofs.Ytibileffpgnjhaa.Lim
namespace Go.Proofs.Ytibileffpgnjhaa.PRr
open Go.RowKit Go.Proofs.YtibileffpgnjhaaW.PrintWords Go.Proofs.YtibileffpgnjhaaW.PrintLast Go.Proofs.YtibileffpgnjhaaW.PrintMore
attribute [local go_sem] max2_int min2_int max_two min_two max_three min_three max_four min_four -- for this text's walks alone
set_option linter.unusedVariables false
set_option linter.unusedSimpArgs false
def errW : Option Int → Value
  | none => .nilIface
  | some c => .iface 0 (.int .i64 c)
theorem errW_none : errW none = .nilIface := rfl
theorem errW_some (c : Int) : errW (some c) = .iface 0 (.int .i64 c) := rfl
theorem info3 : (Try.prog.info? 3).map (fun i => (i.zero, i.size, i.bytes)) = some (some (.int .i64 0), 1, 8) := by kernel_rfl
theorem info5 : (Try.prog.info? 5).map (fun i => (i.zero, i.size, i.bytes)) = some (some (.int .u8 0), 1, 1) := by kernel_rfl
theorem info47 : (Try.prog.info? 47).map (fun i => (i.zero, i.size, i.bytes)) = some (some (.slice none 0 0), 1, 24) := by kernel_rfl
def rd_L1 (xs : List (List Int)) (i : Int) : (List Int) := xs.getD i.toNat ([] : List Int)
theorem at_L1 {w : World} {A : Option Addr} {n : Nat} {xs : List (List Int)} (h : Kd.C (Kd.slice 5 (Kd.int .u8)) w A n xs) (i : Int) (h0 : 0 ≤ i) (h1 : i < n) : ∃ ad A0 c0, A = some ad ∧ w.cell? (ad.add i.toNat) = some (.slice A0 (rd_L1 xs i).length c0) ∧ (rd_L1 xs i).length ≤ c0 ∧ (Kd.int .u8).C w A0 (rd_L1 xs i).length (rd_L1 xs i) := by
  obtain ⟨ad, c, e, _, hK, hc0⟩ := Kd.C_get h ([] : List Int) i h0 h1
  have hc : ∀ j u, c[j]? = some u → w.cell? (ad.add (i.toNat * 1 + j)) = some u := hc0
  obtain ⟨A0, c0, rfl, l0, g0⟩ := hK
  exact ⟨ad, A0, c0, e, by have hq := hc 0 _ rfl; rwa [Nat.mul_one, Nat.add_zero] at hq, l0, g0⟩
end Go.Proofs.Ytibileffpgnjhaa.PRr
namespace Go.Proofs.Ytibileffpgnjhaa.PRr
open Go.RowKit Go.Proofs.YtibileffpgnjhaaW.PrintWords Go.Proofs.YtibileffpgnjhaaW.PrintLast Go.Proofs.YtibileffpgnjhaaW.PrintMore
attribute [local go_sem] max2_int min2_int max_two min_two max_three min_three max_four min_four -- for this text's walks alone
set_option linter.unusedVariables false
set_option linter.unusedSimpArgs false
noncomputable def ramekinref5_even.f (l0 : List (List Int)) (a1 : Int) (a2 : Int) : Option (Bool) := Lim.lim (fun k_ => PRq.ramekinref5_even.f k_ l0 a1 a2)
theorem ramekinref5_even.calls (A0 : Option Addr) (c0 : Nat) (l0 : List (List Int)) (a1 : Int) (a2 : Int) (r : Bool) (w : World) (hr0 : Kd.C (Kd.slice 5 (Kd.int .u8)) w A0 l0.length l0) (hc0 : l0.length ≤ c0) (h : ramekinref5_even.f l0 a1 a2 = some r) :
    Calls Try.prog 39 #[.slice A0 l0.length c0, .int .i64 a1, .int .i64 a2] w fun e w' => e = .returned (.bool r) ∧ Below w.heap.size w w' := by
  obtain ⟨k_, hk_⟩ := Lim.lim_some h
  first
  | exact PRq.ramekinref5_even.calls k_ A0 c0 l0 a1 a2 r w hr0 hc0 hk_
  | exact (PRq.ramekinref5_even.calls k_ A0 c0 l0 a1 a2 r w hr0 hc0 hk_).mono (fun _ _ h_ => ⟨h_.1, Lim.below_of_drewN h_.2⟩)
noncomputable def ramekinref2_Exp.f (a0 : Int) : Option (Int) := Lim.lim (fun k_ => PRq.ramekinref2_Exp.f k_ a0)
theorem ramekinref2_Exp.calls (a0 : Int) (r : Int) (w : World) (h : ramekinref2_Exp.f a0 = some r) :
    Calls Try.prog 55 #[.int .i64 a0] w fun e w' => e = .returned (.int .u8 r) ∧ Below w.heap.size w w' := by
  obtain ⟨k_, hk_⟩ := Lim.lim_some h
  first
  | exact PRq.ramekinref2_Exp.calls k_ a0 r w hk_
  | exact (PRq.ramekinref2_Exp.calls k_ a0 r w hk_).mono (fun _ _ h_ => ⟨h_.1, Lim.below_of_drewN h_.2⟩)
noncomputable def ramekinref2_Mul.f (a0 : Int) (a1 : Int) : Option (Int) := Lim.lim (fun k_ => PRq.ramekinref2_Mul.f k_ a0 a1)
theorem ramekinref2_Mul.calls (a0 : Int) (a1 : Int) (r : Int) (w : World) (h : ramekinref2_Mul.f a0 a1 = some r) :
    Calls Try.prog 56 #[.int .u8 a0, .int .u8 a1] w fun e w' => e = .returned (.int .u8 r) ∧ Below w.heap.size w w' := by
  obtain ⟨k_, hk_⟩ := Lim.lim_some h
  first
  | exact PRq.ramekinref2_Mul.calls k_ a0 a1 r w hk_
  | exact (PRq.ramekinref2_Mul.calls k_ a0 a1 r w hk_).mono (fun _ _ h_ => ⟨h_.1, Lim.below_of_drewN h_.2⟩)
end Go.Proofs.Ytibileffpgnjhaa.PRr
namespace Go.Proofs.Ytibileffpgnjhaa.PRr
open Go.RowKit Go.Proofs.YtibileffpgnjhaaW.PrintWords Go.Proofs.YtibileffpgnjhaaW.PrintLast Go.Proofs.YtibileffpgnjhaaW.PrintMore
attribute [local go_sem] max2_int min2_int max_two min_two max_three min_three max_four min_four -- for this text's walks alone
set_option linter.unusedVariables false
set_option linter.unusedSimpArgs false
mutual
noncomputable def ramekinref5_Parity.l0 : Nat → List (List Int) → List Int → List Int → Int → Option (List Int × List Int)
  | 0, _, _, _, _ => none
  | k + 1, x0, x4, x5, x6 => if x6 < (x0.length : Int) then ((ramekinref2_Exp.f x6).bind fun t119 => (ramekinref5_Parity.l1 k x0 x4 x5 x6 t119 0)) else (some (x4, x5))
noncomputable def ramekinref5_Parity.l1 : Nat → List (List Int) → List Int → List Int → Int → Int → Int → Option (List Int × List Int)
  | 0, _, _, _, _, _, _ => none
  | k + 1, x0, x4, x5, x6, x7, x8 => if 0 ≤ x6 then (if x6 < (x0.length : Int) then (if x8 < ((rd_L1 x0 x6).length : Int) then (if 0 ≤ x8 then (if x8 < (x4.length : Int) then (if x8 < (x5.length : Int) then ((ramekinref2_Mul.f x7 (rd (rd_L1 x0 x6) x8)).bind fun t128 => (ramekinref5_Parity.l1 k x0 (x4.set (x8 : Int).toNat (Go.bits .xor .u8 (rd x4 x8) (rd (rd_L1 x0 x6) x8))) (x5.set (x8 : Int).toNat (Go.bits .xor .u8 (rd x5 x8) t128)) x6 x7 (wrap64 (x8 + 1)))) else (none)) else (none)) else (none)) else (ramekinref5_Parity.l0 k x0 x4 x5 (wrap64 (x6 + 1)))) else (none)) else (none)
end
noncomputable def ramekinref5_Parity.f (k : Nat) (l0 : List (List Int)) : Option (List Int × List Int) := (ramekinref5_even.f l0 2 14).bind fun t110 => (if t110 = true then (if 0 < (l0.length : Int) then (if 0 ≤ ((rd_L1 l0 0).length : Int) then (if (((rd_L1 l0 0).length : Int) : Int).toNat ≤ 281474976710656 then (ramekinref5_Parity.l0 k l0 (List.replicate (((rd_L1 l0 0).length : Int) : Int).toNat 0) (List.replicate (((rd_L1 l0 0).length : Int) : Int).toNat 0) 0) else (none)) else (none)) else (none)) else (some (([] : List Int), ([] : List Int))))
def ramekinref5_Parity.T3 : Bool × List (List Nat × List Nat) := (true, [([], []), ([0], [0]), ([1], [1]), ([2], [2]), ([3, 3], [3]), ([], []), ([5], [5]), ([6], [6]), ([7], [7]), ([8, 8], [8]), ([4, 0, 1, 2, 3, 4], [4]), ([9, 10, 0, 1, 2, 3, 4, 5, 6, 7, 8, 9, 10], [9])])
def ramekinref5_Parity.B3 : List Nat := [0, 1, 3, 7, 15, 0, 32, 96, 224, 480, 31, 2047]
theorem ramekinref5_Parity.tab3 : rtab .any (opsOf Try.f34 3) = ramekinref5_Parity.T3 := by kernel_rfl
theorem ramekinref5_Parity.bits3 : waitsOk ramekinref5_Parity.T3.2 ramekinref5_Parity.B3 = true := by kernel_rfl
def ramekinref5_Parity.T11 : Bool × List (List Nat × List Nat) := (true, [([], []), ([], []), ([], []), ([], []), ([2, 3], [2, 3]), ([4], [4]), ([], []), ([], []), ([6, 7], [6, 7]), ([8], [8]), ([], []), ([9, 10], [9, 10]), ([11], [11]), ([5, 12], [5, 12]), ([0, 1, 0, 1, 2, 3, 4, 5, 6, 7, 8, 9, 10, 11, 12, 13], [0, 1]), ([14, 13, 0, 1, 2, 3, 4, 5, 6, 7, 8, 9, 10, 11, 12, 13], [13, 14])])
def ramekinref5_Parity.B11 : List Nat := [0, 0, 0, 0, 12, 28, 0, 0, 192, 448, 0, 1984, 4032, 8188, 16383, 32767]
theorem ramekinref5_Parity.tab11 : rtab .any (opsOf Try.f34 11) = ramekinref5_Parity.T11 := by kernel_rfl
theorem ramekinref5_Parity.bits11 : waitsOk ramekinref5_Parity.T11.2 ramekinref5_Parity.B11 = true := by kernel_rfl
def ramekinref5_Parity.T12 : Bool × List (List Nat × List Nat) := (true, [([], []), ([], []), ([], []), ([], []), ([2, 3], [2, 3]), ([4], [4]), ([], []), ([], []), ([], []), ([7, 8], [7, 8]), ([9], [9]), ([], []), ([10, 11], [10, 11]), ([12], [12]), ([6, 13], [6, 13]), ([5, 14], [5, 14]), ([0, 1, 0, 1, 2, 3, 4, 5, 6, 7, 8, 9, 10, 11, 12, 13, 14, 15], [0, 1]), ([16, 15, 14, 0, 1, 2, 3, 4, 5, 6, 7, 8, 9, 10, 11, 12, 13, 14, 15], [15, 16])])
def ramekinref5_Parity.B12 : List Nat := [0, 0, 0, 0, 12, 28, 0, 0, 0, 384, 896, 0, 3968, 8064, 16320, 32764, 65535, 131071]
theorem ramekinref5_Parity.tab12 : rtab .any (opsOf Try.f34 12) = ramekinref5_Parity.T12 := by kernel_rfl
theorem ramekinref5_Parity.bits12 : waitsOk ramekinref5_Parity.T12.2 ramekinref5_Parity.B12 = true := by kernel_rfl
set_option maxHeartbeats 8000000 in
set_option maxRecDepth 100000 in
theorem ramekinref5_Parity.calls (k : Nat) (A0 : Option Addr) (c0 : Nat) (l0 : List (List Int)) (r1 : List Int) (r2 : List Int) (w : World) (hr0 : Kd.C (Kd.slice 5 (Kd.int .u8)) w A0 l0.length l0) (hc0 : l0.length ≤ c0) (h : ramekinref5_Parity.f k l0 = some (r1, r2)) :
    Calls Try.prog 34 #[.slice A0 l0.length c0] w fun e w' => ∃ v0_ v1_ : Value, e = .returned (.tuple #[v0_, v1_]) ∧ Kd.R (Kd.int .u8) 5 w' w.heap.size (fun k_ => some k_ ≠ (v1_ : Value).ownBlock) v0_ r1 ∧ Kd.R (Kd.int .u8) 5 w' w.heap.size (fun k_ => some k_ ≠ (v0_ : Value).ownBlock) v1_ r2 ∧ Below w.heap.size w w' := by
  have HR0 := Aside0.mk hr0
  have HC0 := Aside0.mk hc0
  clear hr0 hc0
  have HB := Aside0.mk (Below.refl w.heap.size w)
  have H : ((ramekinref5_even.f l0 2 14).bind fun t110 => (if t110 = true then (if 0 < (l0.length : Int) then (if 0 ≤ ((rd_L1 l0 0).length : Int) then (if (((rd_L1 l0 0).length : Int) : Int).toNat ≤ 281474976710656 then (ramekinref5_Parity.l0 k l0 (List.replicate (((rd_L1 l0 0).length : Int) : Int).toNat 0) (List.replicate (((rd_L1 l0 0).length : Int) : Int).toNat 0) 0) else (none)) else (none)) else (none)) else (some (([] : List Int), ([] : List Int))))) = some (r1, r2) := h
  clear h
  replace H := Option.bind_eq_some_iff.mp H
  obtain ⟨t110, A20, H⟩ := H
  replace H : (if t110 = true then (if 0 < (l0.length : Int) then (if 0 ≤ ((rd_L1 l0 0).length : Int) then (if (((rd_L1 l0 0).length : Int) : Int).toNat ≤ 281474976710656 then (ramekinref5_Parity.l0 k l0 (List.replicate (((rd_L1 l0 0).length : Int) : Int).toNat 0) (List.replicate (((rd_L1 l0 0).length : Int) : Int).toNat 0) 0) else (none)) else (none)) else (none)) else (some (([] : List Int), ([] : List Int)))) = some (r1, r2) := H
  have A2 := Aside0.mk A20
  clear A20
  by_cases c3 : t110 = true
  · subst c3
    have H1 : (if 0 < (l0.length : Int) then (if 0 ≤ ((rd_L1 l0 0).length : Int) then (if (((rd_L1 l0 0).length : Int) : Int).toNat ≤ 281474976710656 then (ramekinref5_Parity.l0 k l0 (List.replicate (((rd_L1 l0 0).length : Int) : Int).toNat 0) (List.replicate (((rd_L1 l0 0).length : Int) : Int).toNat 0) 0) else (none)) else (none)) else (none)) = some (r1, r2) := by rw [if_pos rfl] at H; exact H
    clear H
    have H := H1
    clear H1
    by_cases c4 : 0 < (l0.length : Int)
    · rw [if_pos c4] at H
      have c4b0 : decide (0 < (l0.length : Int)) = true := decide_eq_true c4
      have c4b1 : decide (0 < l0.length) = true := decide_eq_true (by omega)
      clear c4
      by_cases c5 : 0 ≤ ((rd_L1 l0 0).length : Int)
      · rw [if_pos c5] at H
        have c5b0 := eq_true c5
        have c5b1 : decide (0 ≤ ((rd_L1 l0 0).length : Int)) = true := decide_eq_true c5
        clear c5
        by_cases c6 : (((rd_L1 l0 0).length : Int) : Int).toNat ≤ 281474976710656
        · rw [if_pos c6] at H
          have c6b0 := eq_true c6
          have c6b1 : decide ((((rd_L1 l0 0).length : Int) : Int).toNat ≤ 281474976710656) = true := decide_eq_true c6
          clear c6
          obtain ⟨y112, hy112⟩ : ∃ y_ : List Int, y_ = (List.replicate (((rd_L1 l0 0).length : Int) : Int).toNat 0) := ⟨_, rfl⟩
          replace H : (ramekinref5_Parity.l0 k l0 y112 (List.replicate (((rd_L1 l0 0).length : Int) : Int).toNat 0) 0) = some (r1, r2) := by first | (rw [hy112]; with_reducible exact H) | (have H2_ := (Option.bind_some _ _).symm.trans H; rw [hy112]; with_reducible exact H2_) | (have H2_ := (Option.bind_some _ _).symm.trans H; with_reducible exact H2_) | with_reducible exact H | (rw [hy112]; exact H) | exact H
          have Ny112 := Aside0.mk hy112
          clear hy112
          obtain ⟨y116, hy116⟩ : ∃ y_ : List Int, y_ = (List.replicate (((rd_L1 l0 0).length : Int) : Int).toNat 0) := ⟨_, rfl⟩
          replace H : (ramekinref5_Parity.l0 k l0 y112 y116 0) = some (r1, r2) := by first | (rw [hy116]; with_reducible exact H) | (have H2_ := (Option.bind_some _ _).symm.trans H; rw [hy116]; with_reducible exact H2_) | (have H2_ := (Option.bind_some _ _).symm.trans H; with_reducible exact H2_) | with_reducible exact H | (rw [hy116]; exact H) | exact H
          have Ny116 := Aside0.mk hy116
          clear hy116
          have H' := Aside0.mk H
          clear H
          go_enter Try.func34, Try.ntmps34
          try go_wp2_with (first | ((with_reducible refine gate_callee (f := 39) rfl ?_); refine goesL_ (some 10) rfl rfl Try.func39 (by kernel_rfl) rfl #[.slice A0 l0.length c0, .int .i64 2, .int .i64 14] rfl (by (try simp only [List.map_toArray, List.map_cons, List.map_nil]); first | done | rfl | (simp only [List.length_drop, List.length_take]; rfl)) ?_; (with_reducible refine (ramekinref5_even.calls _ _ l0 2 14 true _ ?side1 ?side2 A2.out).mono ?_); (case side1 => repeat (first | exact HR0.out | (with_reducible refine Kd.C_alloc ?_ _) | (with_reducible refine Kd.C_drewN ?_ _) | (with_reducible refine Kd.C_drew ?_))); (case side2 => exact HC0.out); rintro e w7 ⟨rfl, hb⟩; refine ⟨_, rfl, ?_⟩; have n0_ := Aside0.mk (below_step (by repeat (first | (with_reducible first | exact HB.out | apply below_alloc | apply pw_below_drewN | apply below_drew1) | exact HB.out)) hb); clear HB; have HB := n0_; clear n0_; (try clear hb); (try clear hb2); (try clear hk); (try clear hi)))
          have n0_ := Aside0.mk (below_drew1 HB.out)
          clear HB
          have HB := n0_
          clear n0_
          have p111 : 0 ≤ (0 : Int) := (by omega)
          have q111 : 0 < (l0.length : Int) := of_decide_eq_true (by first | (with_reducible assumption) | assumption)
          obtain ⟨ad111, A111_0, c111_0, e111, hx111_0, hl111_0, hi111_0⟩ := at_L1 HR0.out 0 p111 q111
          have hw111_0 := hx111_0
          (try rw [show ((0 : Int)).toNat = 0 from rfl] at hw111_0)
          (try rw [show 0 * 1 = 0 from rfl] at hw111_0)
          (try rw [Addr.add_zero'] at hw111_0)
          cases e111
          have qi111 : (0 < l0.length) = True := eq_true (by omega)
          (try rw [show ((0 : Int)).toNat = 0 from rfl] at hx111_0)
          (try rw [Addr.add_zero'] at hx111_0)
          replace hx111_0 := (HB.out.cell (World.block_lt_of_cell? w _ hx111_0)).trans hx111_0
          have HR111_0 := Aside0.mk hi111_0
          have HC111_0 := Aside0.mk hl111_0
          clear hi111_0 hl111_0
          replace p111 := eq_true p111
          replace q111 := eq_true q111
          have p115 : 0 ≤ (0 : Int) := (by omega)
          have q115 : 0 < (l0.length : Int) := of_decide_eq_true (by first | (with_reducible assumption) | assumption)
          obtain ⟨ad115, A115_0, c115_0, e115, hx115_0, hl115_0, hi115_0⟩ := at_L1 HR0.out 0 p115 q115
          have hw115_0 := hx115_0
          (try rw [show ((0 : Int)).toNat = 0 from rfl] at hw115_0)
          (try rw [show 0 * 1 = 0 from rfl] at hw115_0)
          (try rw [Addr.add_zero'] at hw115_0)
          obtain rfl : ad111 = ad115 := (by injection e115)
          have qi115 : (0 < l0.length) = True := eq_true (by omega)
          (try rw [show ((0 : Int)).toNat = 0 from rfl] at hx115_0)
          (try rw [Addr.add_zero'] at hx115_0)
          replace hx115_0 := (HB.out.cell (World.block_lt_of_cell? w _ hx115_0)).trans hx115_0
          have HR115_0 := Aside0.mk hi115_0
          have HC115_0 := Aside0.mk hl115_0
          clear hi115_0 hl115_0
          replace p115 := eq_true p115
          replace q115 := eq_true q115
          have ea_ := Option.some.inj (hx111_0.symm.trans hx115_0)
          injection ea_ with ea_ en_ ec_
          subst ea_
          subst ec_
          clear en_
          refine start_ (n := 12) (S := fun w' => w'.cell? ad111 = some (.slice A111_0 (rd_L1 l0 0).length c111_0) ∧ w'.cell? ad111 = some (.slice A111_0 (rd_L1 l0 0).length c111_0)) (ds := []) #[false, false, false, false, false, false, false, false, false, false, false, false] (by kernel_rfl) rfl rfl ⟨((HB.out.cell (World.block_lt_of_cell? w _ hw111_0)).trans hw111_0), ((HB.out.cell (World.block_lt_of_cell? w _ hw115_0)).trans hw115_0)⟩ (fun hHeld => ?_); refine with_tabW ramekinref5_Parity.tab3 ramekinref5_Parity.bits3 (fun HT_ HW_ => ?_)
          generalize w7.drew = w8 at HB HR111_0 HR115_0 hx111_0 hx115_0 hHeld ⊢
          refine pure_ (i := 0) (N := some 12) (v := ?_) (a' := ?_) #[true, false, false, false, false, false, false, false, false, false, false, false] rfl rfl (any_of HT_.out (by kernel_rfl)) (fun _ _ _ h => h) (Or.inl ⟨by rfl, ?_⟩) ?_ ?_
          rotate_left
          · intro w'
            go_simp
            with_reducible rfl
          rotate_left
          · simp only [Act.put, List.setIfInBounds_toArray, List.set_cons_zero, List.set_cons_succ, i64_w, i32_w]
            rfl
          refine pure_ (i := 1) (N := some 13) (v := ?_) (a' := ?_) #[true, true, false, false, false, false, false, false, false, false, false, false] rfl rfl (any_of HT_.out (by kernel_rfl)) (fun _ _ _ h => h) (Or.inl ⟨by rfl, ?_⟩) ?_ ?_
          rotate_left
          · intro w'
            go_simp
            with_reducible rfl
          rotate_left
          · simp only [Act.put, List.setIfInBounds_toArray, List.set_cons_zero, List.set_cons_succ, i64_w, i32_w]
            rfl
          refine pure_ (i := 5) (N := some 17) (v := ?_) (a' := ?_) #[true, true, false, false, false, true, false, false, false, false, false, false] rfl rfl (any_of HT_.out (by kernel_rfl)) (fun _ _ _ h => h) (Or.inl ⟨by rfl, ?_⟩) ?_ ?_
          rotate_left
          · intro w'
            go_simp
            with_reducible rfl
          rotate_left
          · simp only [Act.put, List.setIfInBounds_toArray, List.set_cons_zero, List.set_cons_succ, i64_w, i32_w]
            rfl
          refine pure_ (i := 6) (N := some 18) (v := ?_) (a' := ?_) #[true, true, false, false, false, true, true, false, false, false, false, false] rfl rfl (any_of HT_.out (by kernel_rfl)) (fun _ _ _ h => h) (Or.inl ⟨by rfl, ?_⟩) ?_ ?_
          rotate_left
          · intro w'
            go_simp
            with_reducible rfl
          rotate_left
          · simp only [Act.put, List.setIfInBounds_toArray, List.set_cons_zero, List.set_cons_succ, i64_w, i32_w]
            rfl
          refine take_ (i := 2) (N := some 14) (v := ?_) (a' := ?_) #[true, true, true, false, false, true, true, false, false, false, false, false] rfl rfl (take_ofW HT_.out HW_.out (by kernel_rfl)) (fun _ _ _ h => h) (Or.inl ⟨by rfl, ?_⟩) hHeld ?_ ?_
          rotate_left
          · rintro w' ⟨s0, s1⟩
            go_simp
            with_reducible rfl
          rotate_left
          · simp only [Act.put, List.setIfInBounds_toArray, List.set_cons_zero, List.set_cons_succ, i64_w, i32_w]
            rfl
          refine pure_ (i := 3) (N := some 15) (v := ?_) (a' := ?_) #[true, true, true, true, false, true, true, false, false, false, false, false] rfl rfl (any_of HT_.out (by kernel_rfl)) (fun _ _ _ h => h) (Or.inl ⟨by rfl, ?_⟩) ?_ ?_
          rotate_left
          · intro w'
            go_simp
            with_reducible rfl
          rotate_left
          · simp only [Act.put, List.setIfInBounds_toArray, List.set_cons_zero, List.set_cons_succ, i64_w, i32_w]
            rfl
          refine take_ (i := 7) (N := some 19) (v := ?_) (a' := ?_) #[true, true, true, true, false, true, true, true, false, false, false, false] rfl rfl (take_ofW HT_.out HW_.out (by kernel_rfl)) (fun _ _ _ h => h) (Or.inl ⟨by rfl, ?_⟩) hHeld ?_ ?_
          rotate_left
          · rintro w' ⟨s0, s1⟩
            go_simp
            with_reducible rfl
          rotate_left
          · simp only [Act.put, List.setIfInBounds_toArray, List.set_cons_zero, List.set_cons_succ, i64_w, i32_w]
            rfl
          refine pure_ (i := 8) (N := some 20) (v := ?_) (a' := ?_) #[true, true, true, true, false, true, true, true, true, false, false, false] rfl rfl (any_of HT_.out (by kernel_rfl)) (fun _ _ _ h => h) (Or.inl ⟨by rfl, ?_⟩) ?_ ?_
          rotate_left
          · intro w'
            go_simp
            with_reducible rfl
          rotate_left
          · simp only [Act.put, List.setIfInBounds_toArray, List.set_cons_zero, List.set_cons_succ, i64_w, i32_w]
            rfl
          refine join_ (σ := Value × Value) 1 #[true, true, true, true, true, true, true, true, true, true, true, false] (fun s_ => [(16, s_.1), (21, s_.2), (4, s_.1)]) (fun s_ w' => (w'.cell? ad111 = some (.slice A111_0 (rd_L1 l0 0).length c111_0) ∧ w'.cell? ad111 = some (.slice A111_0 (rd_L1 l0 0).length c111_0)) ∧ (Kd.R (Kd.int .u8) 5 w' w.heap.size (fun k_ => some k_ ≠ (s_.2 : Value).ownBlock) s_.1 y112) ∧ (Kd.R (Kd.int .u8) 5 w' w.heap.size (fun k_ => some k_ ≠ (s_.1 : Value).ownBlock) s_.2 y116) ∧ (Below w.heap.size w w')) ?_ ?_
          rotate_left
          · intro hCont
            refine two_ (i := 4) (j := 9) (Ni := some 16) (Nj := some 21) #[true, true, true, true, true, true, true, true, true, false, false, false] #[true, true, true, true, false, true, true, true, true, true, false, false] rfl rfl rfl rfl (two_of HT_.out (by kernel_rfl)) (by decide) (by decide) (fun K hK => ?_) (fun K hK => ?_)
            · skip
              refine Kd.R_make_step (Kd.int .u8) _ 5 (by rfl) (N := 16) rfl 47 _ _ rfl ((rd_L1 l0 0).length : Int) rfl rfl Try.underlying47 (.int .u8 0) 1 info5 rfl (by decide) (by omega) 0 (ok := fun _ => True) (okp := fun _ => True) rfl (fun _ hk => hk) trivial (of_decide_eq_true (by first | (with_reducible assumption) | assumption)) (Nat.le_trans (Nat.mul_le_mul_right _ (of_decide_eq_true (by first | (with_reducible assumption) | assumption) : ((rd_L1 l0 0).length : Int).toNat ≤ 281474976710656)) (by omega)) (Below.refl _ _) (Nat.le_refl _) ?_
              intro v113 w9 ho10 hb hg_ hnew_
              clear hg_ hnew_
              (first | rw [← Ny112.out] at ho10 | (simp only [Int.reduceToNat] at ho10; rw [← Ny112.out] at ho10))
              have n0_ := Aside0.mk (Kd.R_lower ho10 (below_size (by repeat (first | (with_reducible first | exact HB.out | apply below_alloc | apply pw_below_drewN | apply below_drew1) | exact HB.out))))
              have n1_ := Aside0.mk (below_step (by repeat (first | (with_reducible first | exact HB.out | apply below_alloc | apply pw_below_drewN | apply below_drew1) | exact HB.out)) hb)
              clear HB
              have HO114 := n0_
              have HB := n1_
              clear n0_ n1_
              clear hb ho10
              refine hK.out _ _ ⟨((HB.out.cell (World.block_lt_of_cell? w _ hw111_0)).trans hw111_0), ((HB.out.cell (World.block_lt_of_cell? w _ hw115_0)).trans hw115_0)⟩ (fun hHeld => ?_)
              clear hK K
              refine norm_ (a' := ?_) ?_ ?_
              rotate_left
              · show Act.put _ (some 16) _ = _
                simp only [Act.put, List.setIfInBounds_toArray, List.set_cons_zero, List.set_cons_succ, i64_w, i32_w]
                rfl
              refine pure_ (i := 10) (N := some 4) (v := ?_) (a' := ?_) #[true, true, true, true, true, true, true, true, true, false, true, false] rfl rfl (any_of HT_.out (by kernel_rfl)) (fun _ _ _ h => h) (Or.inl ⟨by rfl, ?_⟩) ?_ ?_
              rotate_left
              · intro w'
                go_simp
                with_reducible rfl
              rotate_left
              · simp only [Act.put, List.setIfInBounds_toArray, List.set_cons_zero, List.set_cons_succ, i64_w, i32_w]
                rfl
              refine one_ (i := 9) (N := some 21) #[true, true, true, true, true, true, true, true, true, true, true, false] rfl rfl (one_of HT_.out (by kernel_rfl)) (by decide) (fun K hK => ?_)
              refine Kd.R_make_step (Kd.int .u8) _ 5 (by rfl) (N := 21) rfl 47 _ _ rfl ((rd_L1 l0 0).length : Int) rfl rfl Try.underlying47 (.int .u8 0) 1 info5 rfl (by decide) (by omega) 0 (ok := fun _ => True) (okp := fun _ => True) rfl (fun _ hk => hk) trivial (of_decide_eq_true (by first | (with_reducible assumption) | assumption)) (Nat.le_trans (Nat.mul_le_mul_right _ (of_decide_eq_true (by first | (with_reducible assumption) | assumption) : ((rd_L1 l0 0).length : Int).toNat ≤ 281474976710656)) (by omega)) (Below.refl _ _) (Nat.le_refl _) ?_
              intro v117 w11 ho12 hb hg_ hnew_
              clear hg_ hnew_
              (first | rw [← Ny116.out] at ho12 | (simp only [Int.reduceToNat] at ho12; rw [← Ny116.out] at ho12))
              have n0_ := Aside0.mk (Kd.R_elder' (by (with_reducible repeat (first | apply Kd.R_alloc | apply Kd.R_drewN | apply Kd.R_drew)); exact HO114.out) (Kd.R_base ho12) hb)
              have n1_ := Aside0.mk (Kd.R_lower (Kd.R_new' ho12 (Kd.R_lt (by (with_reducible repeat (first | apply Kd.R_alloc | apply Kd.R_drewN | apply Kd.R_drew)); exact HO114.out))) (below_size (by repeat (first | (with_reducible first | exact HB.out | apply below_alloc | apply pw_below_drewN | apply below_drew1) | exact HB.out))))
              have n2_ := Aside0.mk (below_step (by repeat (first | (with_reducible first | exact HB.out | apply below_alloc | apply pw_below_drewN | apply below_drew1) | exact HB.out)) hb)
              clear HO114
              clear HB
              have HO114 := n0_
              have HO118 := n1_
              have HB := n2_
              clear n0_ n1_ n2_
              clear hb ho12
              refine hK.out _ _ ⟨((HB.out.cell (World.block_lt_of_cell? w _ hw111_0)).trans hw111_0), ((HB.out.cell (World.block_lt_of_cell? w _ hw115_0)).trans hw115_0)⟩ (fun hHeld => ?_)
              clear hK K
              refine norm_ (a' := ?_) ?_ ?_
              rotate_left
              · show Act.put _ (some 21) _ = _
                simp only [Act.put, List.setIfInBounds_toArray, List.set_cons_zero, List.set_cons_succ, i64_w, i32_w]
                rfl
              exact norm_ (by simp only [putAll, Act.put, List.setIfInBounds_toArray, List.set_cons_zero, List.set_cons_succ]) (hCont (v113, v117) _ ⟨hHeld, (by (with_reducible repeat (first | apply Kd.R_alloc | apply Kd.R_drewN | apply Kd.R_drew)); exact Kd.R_mono HO114.out (fun _ hk => hk.2)), (by (with_reducible repeat (first | apply Kd.R_alloc | apply Kd.R_drewN | apply Kd.R_drew)); exact Kd.R_mono HO118.out (fun _ hk => hk.2)), (by repeat (first | (with_reducible first | exact HB.out | apply below_alloc | apply pw_below_drewN | apply below_drew1) | exact HB.out))⟩)
            · skip
              refine Kd.R_make_step (Kd.int .u8) _ 5 (by rfl) (N := 21) rfl 47 _ _ rfl ((rd_L1 l0 0).length : Int) rfl rfl Try.underlying47 (.int .u8 0) 1 info5 rfl (by decide) (by omega) 0 (ok := fun _ => True) (okp := fun _ => True) rfl (fun _ hk => hk) trivial (of_decide_eq_true (by first | (with_reducible assumption) | assumption)) (Nat.le_trans (Nat.mul_le_mul_right _ (of_decide_eq_true (by first | (with_reducible assumption) | assumption) : ((rd_L1 l0 0).length : Int).toNat ≤ 281474976710656)) (by omega)) (Below.refl _ _) (Nat.le_refl _) ?_
              intro v117 w9 ho10 hb hg_ hnew_
              clear hg_ hnew_
              (first | rw [← Ny116.out] at ho10 | (simp only [Int.reduceToNat] at ho10; rw [← Ny116.out] at ho10))
              have n0_ := Aside0.mk (Kd.R_lower ho10 (below_size (by repeat (first | (with_reducible first | exact HB.out | apply below_alloc | apply pw_below_drewN | apply below_drew1) | exact HB.out))))
              have n1_ := Aside0.mk (below_step (by repeat (first | (with_reducible first | exact HB.out | apply below_alloc | apply pw_below_drewN | apply below_drew1) | exact HB.out)) hb)
              clear HB
              have HO118 := n0_
              have HB := n1_
              clear n0_ n1_
              clear hb ho10
              refine hK.out _ _ ⟨((HB.out.cell (World.block_lt_of_cell? w _ hw111_0)).trans hw111_0), ((HB.out.cell (World.block_lt_of_cell? w _ hw115_0)).trans hw115_0)⟩ (fun hHeld => ?_)
              clear hK K
              refine norm_ (a' := ?_) ?_ ?_
              rotate_left
              · show Act.put _ (some 21) _ = _
                simp only [Act.put, List.setIfInBounds_toArray, List.set_cons_zero, List.set_cons_succ, i64_w, i32_w]
                rfl
              refine one_ (i := 4) (N := some 16) #[true, true, true, true, true, true, true, true, true, true, false, false] rfl rfl (one_of HT_.out (by kernel_rfl)) (by decide) (fun K hK => ?_)
              refine Kd.R_make_step (Kd.int .u8) _ 5 (by rfl) (N := 16) rfl 47 _ _ rfl ((rd_L1 l0 0).length : Int) rfl rfl Try.underlying47 (.int .u8 0) 1 info5 rfl (by decide) (by omega) 0 (ok := fun _ => True) (okp := fun _ => True) rfl (fun _ hk => hk) trivial (of_decide_eq_true (by first | (with_reducible assumption) | assumption)) (Nat.le_trans (Nat.mul_le_mul_right _ (of_decide_eq_true (by first | (with_reducible assumption) | assumption) : ((rd_L1 l0 0).length : Int).toNat ≤ 281474976710656)) (by omega)) (Below.refl _ _) (Nat.le_refl _) ?_
              intro v113 w11 ho12 hb hg_ hnew_
              clear hg_ hnew_
              (first | rw [← Ny112.out] at ho12 | (simp only [Int.reduceToNat] at ho12; rw [← Ny112.out] at ho12))
              have n0_ := Aside0.mk (Kd.R_elder' (by (with_reducible repeat (first | apply Kd.R_alloc | apply Kd.R_drewN | apply Kd.R_drew)); exact HO118.out) (Kd.R_base ho12) hb)
              have n1_ := Aside0.mk (Kd.R_lower (Kd.R_new' ho12 (Kd.R_lt (by (with_reducible repeat (first | apply Kd.R_alloc | apply Kd.R_drewN | apply Kd.R_drew)); exact HO118.out))) (below_size (by repeat (first | (with_reducible first | exact HB.out | apply below_alloc | apply pw_below_drewN | apply below_drew1) | exact HB.out))))
              have n2_ := Aside0.mk (below_step (by repeat (first | (with_reducible first | exact HB.out | apply below_alloc | apply pw_below_drewN | apply below_drew1) | exact HB.out)) hb)
              clear HO118
              clear HB
              have HO118 := n0_
              have HO114 := n1_
              have HB := n2_
              clear n0_ n1_ n2_
              clear hb ho12
              refine hK.out _ _ ⟨((HB.out.cell (World.block_lt_of_cell? w _ hw111_0)).trans hw111_0), ((HB.out.cell (World.block_lt_of_cell? w _ hw115_0)).trans hw115_0)⟩ (fun hHeld => ?_)
              clear hK K
              refine norm_ (a' := ?_) ?_ ?_
              rotate_left
              · show Act.put _ (some 16) _ = _
                simp only [Act.put, List.setIfInBounds_toArray, List.set_cons_zero, List.set_cons_succ, i64_w, i32_w]
                rfl
              refine pure_ (i := 10) (N := some 4) (v := ?_) (a' := ?_) #[true, true, true, true, true, true, true, true, true, true, true, false] rfl rfl (any_of HT_.out (by kernel_rfl)) (fun _ _ _ h => h) (Or.inl ⟨by rfl, ?_⟩) ?_ ?_
              rotate_left
              · intro w'
                go_simp
                with_reducible rfl
              rotate_left
              · simp only [Act.put, List.setIfInBounds_toArray, List.set_cons_zero, List.set_cons_succ, i64_w, i32_w]
                rfl
              exact norm_ (by simp only [putAll, Act.put, List.setIfInBounds_toArray, List.set_cons_zero, List.set_cons_succ]) (hCont (v113, v117) _ ⟨hHeld, (by (with_reducible repeat (first | apply Kd.R_alloc | apply Kd.R_drewN | apply Kd.R_drew)); exact Kd.R_mono HO114.out (fun _ hk => hk.2)), (by (with_reducible repeat (first | apply Kd.R_alloc | apply Kd.R_drewN | apply Kd.R_drew)); exact Kd.R_mono HO118.out (fun _ hk => hk.2)), (by repeat (first | (with_reducible first | exact HB.out | apply below_alloc | apply pw_below_drewN | apply below_drew1) | exact HB.out))⟩)
          rintro ⟨v113, v117⟩ w13 ⟨hS_, h0_, h1_, h2_⟩
          have n0_ : Aside0 (Kd.R (Kd.int .u8) 5 w13 w.heap.size (fun k_ => some k_ ≠ (v117 : Value).ownBlock) v113 y112) := ⟨h0_⟩
          have n1_ : Aside0 (Kd.R (Kd.int .u8) 5 w13 w.heap.size (fun k_ => some k_ ≠ (v113 : Value).ownBlock) v117 y116) := ⟨h1_⟩
          have n2_ : Aside0 (Below w.heap.size w w13) := ⟨h2_⟩
          clear HB
          clear h0_ h1_ h2_
          have HO114 := n0_
          have HO118 := n1_
          have HB := n2_
          clear n0_ n1_ n2_
          have hHeld : w13.cell? ad111 = some (.slice A111_0 (rd_L1 l0 0).length c111_0) ∧ w13.cell? ad111 = some (.slice A111_0 (rd_L1 l0 0).length c111_0) := hS_
          refine norm_ (a' := ?_) ?_ ?_
          rotate_left
          · simp only [putAll, Act.put, List.setIfInBounds_toArray, List.set_cons_zero, List.set_cons_succ]
            rfl
          refine pure_ (i := 11) (N := some 5) (v := ?_) (a' := ?_) #[true, true, true, true, true, true, true, true, true, true, true, true] rfl rfl (any_of HT_.out (by kernel_rfl)) (fun _ _ _ h => h) (Or.inl ⟨by rfl, ?_⟩) ?_ ?_
          rotate_left
          · intro w'
            go_simp
            with_reducible rfl
          rotate_left
          · simp only [Act.put, List.setIfInBounds_toArray, List.set_cons_zero, List.set_cons_succ, i64_w, i32_w]
            rfl
          refine done_ (done_of HT_.out (by kernel_rfl)) ?_
          try go_wp2
          go_loopg [6] k (fun kq v6 w' => ∃ (x4_1 : List Int) (x5_1 : List Int) (x6_1 : Int), v6 = .int .i64 x6_1 ∧ Aside0 (ramekinref5_Parity.l0 kq l0 x4_1 x5_1 x6_1 = some (r1, r2)) ∧ Aside0 (kq ≤ k) ∧ Aside0 (Kd.R (Kd.int .u8) 5 w' w.heap.size (fun k_ => some k_ ≠ (v117 : Value).ownBlock) v113 x4_1) ∧ Aside0 (Kd.R (Kd.int .u8) 5 w' w.heap.size (fun k_ => some k_ ≠ (v113 : Value).ownBlock) v117 x5_1) ∧ Aside0 (Below w.heap.size w w'))
          case atStart => exact ⟨(y112), (y116), (0), (by first | rfl | (simp; done) | (simp [*]; done)), H', ⟨Nat.le_refl _⟩, ⟨by (with_reducible repeat (first | apply Kd.R_alloc | apply Kd.R_drewN | apply Kd.R_drew)); exact HO114.out⟩, ⟨by (with_reducible repeat (first | apply Kd.R_alloc | apply Kd.R_drewN | apply Kd.R_drew)); exact HO118.out⟩, ⟨by repeat (first | (with_reducible first | exact HB.out | apply below_alloc | apply pw_below_drewN | apply below_drew1) | exact HB.out)⟩⟩
          case round =>
            clear H'
            try clear c1
            try clear p1
            try clear q1
            try clear hx1
            try clear qi1
            try clear p2
            try clear c3
            try clear c4
            try clear c4b0
            try clear c4b1
            try clear c5
            try clear c5b0
            try clear c5b1
            try clear c6
            try clear c6b0
            try clear c6b1
            try clear c11
            try clear p11
            try clear q11
            try clear hx11
            try clear qi11
            try clear hx111_0
            try clear hx115_0
            try clear p111
            try clear p115
            try clear q111
            try clear q115
            obtain ⟨x4_1, x5_1, x6_1, rfl, HA, HK1, HO_4, HO_5, HB⟩ := hrel
            cases gk with
            | zero => exact absurd HA.out (by simp [ramekinref5_Parity.l0])
            | succ k1 =>
              have H := HA.out
              clear HA
              simp only [ramekinref5_Parity.l0] at H
              by_cases c14 : x6_1 < (l0.length : Int)
              · rw [if_pos c14] at H
                have c14b0 : decide (x6_1 < (l0.length : Int)) = true := decide_eq_true c14
                clear c14
                replace H := Option.bind_eq_some_iff.mp H
                obtain ⟨t119, A150, H⟩ := H
                replace H : (ramekinref5_Parity.l1 k1 l0 x4_1 x5_1 x6_1 t119 0) = some (r1, r2) := H
                have A15 := Aside0.mk A150
                clear A150
                have H' := Aside0.mk H
                clear H
                go_wp2_with (first | ((with_reducible refine gate_callee (f := 55) rfl ?_); refine goesL_ (some 29) rfl rfl Try.func55 (by kernel_rfl) rfl #[.int .i64 x6_1] rfl (by (try simp only [List.map_toArray, List.map_cons, List.map_nil]); first | done | rfl | (simp only [List.length_drop, List.length_take]; rfl)) ?_; (with_reducible refine (ramekinref2_Exp.calls x6_1 t119 _ A15.out).mono ?_); rintro e w16 ⟨rfl, hb⟩; refine ⟨_, rfl, ?_⟩; have n0_ := Aside0.mk (Kd.R_below (by (with_reducible repeat (first | apply Kd.R_alloc | apply Kd.R_drewN | apply Kd.R_drew)); exact HO_4.out) hb); have n1_ := Aside0.mk (Kd.R_below (by (with_reducible repeat (first | apply Kd.R_alloc | apply Kd.R_drewN | apply Kd.R_drew)); exact HO_5.out) hb); have n2_ := Aside0.mk (below_step (by repeat (first | (with_reducible first | exact HB.out | apply below_alloc | apply pw_below_drewN | apply below_drew1) | exact HB.out)) hb); clear HO_4; clear HO_5; clear HB; have HO_4 := n0_; have HO_5 := n1_; have HB := n2_; clear n0_ n1_ n2_; (try clear hb); (try clear hb2); (try clear hk); (try clear hi)))
                go_loopg [8] k1 (fun kq v8 w' => ∃ (x4_2 : List Int) (x5_2 : List Int) (x8_2 : Int), v8 = .int .i64 x8_2 ∧ Aside0 (ramekinref5_Parity.l1 kq l0 x4_2 x5_2 x6_1 t119 x8_2 = some (r1, r2)) ∧ Aside0 (kq ≤ k1) ∧ Aside0 (Kd.R (Kd.int .u8) 5 w' w.heap.size (fun k_ => some k_ ≠ (v117 : Value).ownBlock) v113 x4_2) ∧ Aside0 (Kd.R (Kd.int .u8) 5 w' w.heap.size (fun k_ => some k_ ≠ (v113 : Value).ownBlock) v117 x5_2) ∧ Aside0 (Below w.heap.size w w'))
                case atStart => exact ⟨(x4_1), (x5_1), (0), (by first | rfl | (simp; done) | (simp [*]; done)), H', ⟨Nat.le_refl _⟩, ⟨by (with_reducible repeat (first | apply Kd.R_alloc | apply Kd.R_drewN | apply Kd.R_drew)); exact HO_4.out⟩, ⟨by (with_reducible repeat (first | apply Kd.R_alloc | apply Kd.R_drewN | apply Kd.R_drew)); exact HO_5.out⟩, ⟨by repeat (first | (with_reducible first | exact HB.out | apply below_alloc | apply pw_below_drewN | apply below_drew1) | exact HB.out)⟩⟩
                case round =>
                  clear H'
                  try clear c1
                  try clear p1
                  try clear q1
                  try clear hx1
                  try clear qi1
                  try clear p2
                  try clear c3
                  try clear c4
                  try clear c4b0
                  try clear c4b1
                  try clear c5
                  try clear c5b0
                  try clear c5b1
                  try clear c6
                  try clear c6b0
                  try clear c6b1
                  try clear c11
                  try clear p11
                  try clear q11
                  try clear hx11
                  try clear qi11
                  try clear c14
                  try clear c14b0
                  try clear hx111_0
                  try clear hx115_0
                  try clear p1
                  try clear p11
                  try clear p111
                  try clear p115
                  try clear p2
                  try clear q1
                  try clear q11
                  try clear q111
                  try clear q115
                  obtain ⟨x4_2, x5_2, x8_2, rfl, HA, HK2, HO_4, HO_5, HB⟩ := hrel
                  cases gk with
                  | zero => exact absurd HA.out (by simp [ramekinref5_Parity.l1])
                  | succ k2 =>
                    have H := HA.out
                    clear HA
                    simp only [ramekinref5_Parity.l1] at H
                    by_cases c17 : 0 ≤ x6_1
                    · rw [if_pos c17] at H
                      have c17b0 : decide (0 ≤ x6_1) = true := decide_eq_true c17
                      clear c17
                      by_cases c18 : x6_1 < (l0.length : Int)
                      · rw [if_pos c18] at H
                        have c18b0 : decide (x6_1 < (l0.length : Int)) = true := decide_eq_true c18
                        clear c18
                        by_cases c19 : x8_2 < ((rd_L1 l0 x6_1).length : Int)
                        · rw [if_pos c19] at H
                          have c19b0 : decide (x8_2 < ((rd_L1 l0 x6_1).length : Int)) = true := decide_eq_true c19
                          clear c19
                          by_cases c20 : 0 ≤ x8_2
                          · rw [if_pos c20] at H
                            have c20b0 : decide (0 ≤ x8_2) = true := decide_eq_true c20
                            clear c20
                            by_cases c21 : x8_2 < (x4_2.length : Int)
                            · rw [if_pos c21] at H
                              have c21b0 : decide (x8_2 < (x4_2.length : Int)) = true := decide_eq_true c21
                              clear c21
                              obtain ⟨y124, hy124⟩ : ∃ y_ : List Int, y_ = (x4_2.set (x8_2 : Int).toNat (Go.bits .xor .u8 (rd x4_2 x8_2) (rd (rd_L1 l0 x6_1) x8_2))) := ⟨_, rfl⟩
                              replace H : (if x8_2 < (x5_2.length : Int) then ((ramekinref2_Mul.f t119 (rd (rd_L1 l0 x6_1) x8_2)).bind fun t128 => (ramekinref5_Parity.l1 k2 l0 y124 (x5_2.set (x8_2 : Int).toNat (Go.bits .xor .u8 (rd x5_2 x8_2) t128)) x6_1 t119 (wrap64 (x8_2 + 1)))) else (none)) = some (r1, r2) := by first | (rw [hy124]; with_reducible exact H) | (have H2_ := (Option.bind_some _ _).symm.trans H; rw [hy124]; with_reducible exact H2_) | (have H2_ := (Option.bind_some _ _).symm.trans H; with_reducible exact H2_) | with_reducible exact H | (rw [hy124]; exact H) | exact H
                              have Ny124 := Aside0.mk hy124
                              clear hy124
                              by_cases c23 : x8_2 < (x5_2.length : Int)
                              · rw [if_pos c23] at H
                                have c23b0 : decide (x8_2 < (x5_2.length : Int)) = true := decide_eq_true c23
                                clear c23
                                replace H := Option.bind_eq_some_iff.mp H
                                obtain ⟨t128, A240, H⟩ := H
                                replace H : (ramekinref5_Parity.l1 k2 l0 y124 (x5_2.set (x8_2 : Int).toNat (Go.bits .xor .u8 (rd x5_2 x8_2) t128)) x6_1 t119 (wrap64 (x8_2 + 1))) = some (r1, r2) := H
                                have A24 := Aside0.mk A240
                                clear A240
                                obtain ⟨y129, hy129⟩ : ∃ y_ : List Int, y_ = (x5_2.set (x8_2 : Int).toNat (Go.bits .xor .u8 (rd x5_2 x8_2) t128)) := ⟨_, rfl⟩
                                replace H : (ramekinref5_Parity.l1 k2 l0 y124 y129 x6_1 t119 (wrap64 (x8_2 + 1))) = some (r1, r2) := by first | (rw [hy129]; with_reducible exact H) | (have H2_ := (Option.bind_some _ _).symm.trans H; rw [hy129]; with_reducible exact H2_) | (have H2_ := (Option.bind_some _ _).symm.trans H; with_reducible exact H2_) | with_reducible exact H | (rw [hy129]; exact H) | exact H
                                have Ny129 := Aside0.mk hy129
                                clear hy129
                                have H' := Aside0.mk H
                                clear H
                                have p120 : 0 ≤ (x6_1 : Int) := of_decide_eq_true (by first | (with_reducible assumption) | assumption)
                                have q120 : x6_1 < (l0.length : Int) := of_decide_eq_true (by first | (with_reducible assumption) | assumption)
                                obtain ⟨ad120, A120_0, c120_0, e120, hx120_0, hl120_0, hi120_0⟩ := at_L1 HR0.out x6_1 p120 q120
                                obtain rfl : ad111 = ad120 := (by injection e120)
                                replace hx120_0 := (HB.out.cell (World.block_lt_of_cell? w _ hx120_0)).trans hx120_0
                                have HR120_0 := Aside0.mk hi120_0
                                have HC120_0 := Aside0.mk hl120_0
                                clear hi120_0 hl120_0
                                replace p120 := eq_true p120
                                replace q120 := eq_true q120
                                try go_wp2
                                have n0_ := Aside0.mk (Kd.R_drew HO_4.out)
                                have n1_ := Aside0.mk (Kd.R_drew HO_5.out)
                                have n2_ := Aside0.mk (below_drew1 HB.out)
                                clear HO_4
                                clear HO_5
                                clear HB
                                have HO_4 := n0_
                                have HO_5 := n1_
                                have HB := n2_
                                clear n0_ n1_ n2_
                                obtain ⟨Ao27, co27, eo27⟩ := Kd.R_slice HO_4.out
                                (first | subst eo27 | (injection eo27 with f1_ f2_ f3_; have f4_ := f1_.symm; have f5_ := f3_.symm; clear f1_ f2_ f3_; subst f4_; subst f5_))
                                have p121 : 0 ≤ (x8_2 : Int) := of_decide_eq_true (by first | (with_reducible assumption) | assumption)
                                have q121 : x8_2 < (x4_2.length : Int) := of_decide_eq_true (by first | (with_reducible assumption) | assumption)
                                obtain ⟨ad121, e121, hx121_0⟩ := Kd.at_int (Kd.R_reads' HO_4.out).2.2 x8_2 p121 q121
                                cases e121
                                replace p121 := eq_true p121
                                replace q121 := eq_true q121
                                have p122 : 0 ≤ (x6_1 : Int) := of_decide_eq_true (by first | (with_reducible assumption) | assumption)
                                have q122 : x6_1 < (l0.length : Int) := of_decide_eq_true (by first | (with_reducible assumption) | assumption)
                                obtain ⟨ad122, A122_0, c122_0, e122, hx122_0, hl122_0, hi122_0⟩ := at_L1 HR0.out x6_1 p122 q122
                                have hw122_0 := hx122_0
                                obtain rfl : ad111 = ad122 := (by injection e122)
                                replace hx122_0 := (HB.out.cell (World.block_lt_of_cell? w _ hx122_0)).trans hx122_0
                                have HR122_0 := Aside0.mk hi122_0
                                have HC122_0 := Aside0.mk hl122_0
                                clear hi122_0 hl122_0
                                replace p122 := eq_true p122
                                replace q122 := eq_true q122
                                have p123 : 0 ≤ (x8_2 : Int) := of_decide_eq_true (by first | (with_reducible assumption) | assumption)
                                have q123 : x8_2 < ((rd_L1 l0 x6_1).length : Int) := of_decide_eq_true (by first | (with_reducible assumption) | assumption)
                                obtain ⟨ad123, e123, hx123_0⟩ := Kd.at_int HR122_0.out x8_2 p123 q123
                                have hw123_0 := hx123_0
                                cases e123
                                replace hx123_0 := (HB.out.cell (World.block_lt_of_cell? w _ hx123_0)).trans hx123_0
                                replace p123 := eq_true p123
                                replace q123 := eq_true q123
                                have p22 : 0 ≤ (x8_2 : Int) := of_decide_eq_true (by first | (with_reducible assumption) | assumption)
                                have q22 : (x8_2 : Int) < ((x4_2.length : Int) : Int) := of_decide_eq_true (by first | (with_reducible assumption) | assumption)
                                obtain ⟨go22, co22, eo22, gb22, gl22, cl22, HG22⟩ := Kd.R_form HO_4.out (by omega)
                                (first | cases eo22 | (injection eo22 with ea_ en_ ec_; (first | subst ea_ | (injection ea_ with ea_; subst ea_)); subst ec_; clear en_))
                                have GB22 := Aside0.mk gb22
                                have GG22 := Aside0.mk HG22
                                clear gb22 gl22 HG22
                                (first | simp only [add_plain] at hx121_0 | skip)
                                obtain ⟨hx22_0, hf22_0⟩ := Kd.R_celln 0 HO_4.out (x8_2 : Int) p22 q22
                                replace p22 := eq_true p22
                                replace q22 := eq_true q22
                                have HP28 := Kd.R_putn HO_4.out (x8_2 : Int) (Go.bits .xor .u8 (rd x4_2 x8_2) (rd (rd_L1 l0 x6_1) x8_2))
                                rw [← Ny124.out] at HP28
                                have HQ28 := Aside0.mk HP28
                                clear HP28
                                refine start_ (n := 16) (S := fun w' => w'.cell? ⟨go22, (x8_2).toNat, none⟩ = some (.int .u8 (rd x4_2 x8_2)) ∧ w'.cell? (ad111.add (x6_1).toNat) = some (.slice (some ad123) (rd_L1 l0 x6_1).length c122_0) ∧ w'.cell? (ad123.add (x8_2).toNat) = some (.int .u8 (rd (rd_L1 l0 x6_1) x8_2))) (ds := [15]) #[false, false, false, false, false, false, false, false, false, false, false, false, false, false, false, false] (by kernel_rfl) rfl rfl ⟨hx121_0, ((HB.out.cell (World.block_lt_of_cell? w _ hw122_0)).trans hw122_0), ((HB.out.cell (World.block_lt_of_cell? w _ hw123_0)).trans hw123_0)⟩ (fun hHeld => ?_); refine with_tabW ramekinref5_Parity.tab11 ramekinref5_Parity.bits11 (fun HT_ HW_ => ?_)
                                generalize wr.drew = w26 at HO_4 HO_5 HB GG22 HQ28 HR122_0 hf22_0 hx121_0 hx122_0 hx123_0 hx22_0 hHeld ⊢
                                refine pure_ (i := 0) (N := some 39) (v := ?_) (a' := ?_) #[true, false, false, false, false, false, false, false, false, false, false, false, false, false, false, false] rfl rfl (any_of HT_.out (by kernel_rfl)) (fun _ _ _ h => h) (Or.inl ⟨by rfl, ?_⟩) ?_ ?_
                                rotate_left
                                · intro w'
                                  go_simp
                                  with_reducible rfl
                                rotate_left
                                · simp only [Act.put, List.setIfInBounds_toArray, List.set_cons_zero, List.set_cons_succ, i64_w, i32_w]
                                  rfl
                                refine pure_ (i := 1) (N := some 40) (v := ?_) (a' := ?_) #[true, true, false, false, false, false, false, false, false, false, false, false, false, false, false, false] rfl rfl (any_of HT_.out (by kernel_rfl)) (fun _ _ _ h => h) (Or.inl ⟨by rfl, ?_⟩) ?_ ?_
                                rotate_left
                                · intro w'
                                  go_simp
                                  with_reducible rfl
                                rotate_left
                                · simp only [Act.put, List.setIfInBounds_toArray, List.set_cons_zero, List.set_cons_succ, i64_w, i32_w]
                                  rfl
                                refine pure_ (i := 2) (N := some 41) (v := ?_) (a' := ?_) #[true, true, true, false, false, false, false, false, false, false, false, false, false, false, false, false] rfl rfl (any_of HT_.out (by kernel_rfl)) (fun _ _ _ h => h) (Or.inl ⟨by rfl, ?_⟩) ?_ ?_
                                rotate_left
                                · intro w'
                                  go_simp
                                  with_reducible rfl
                                rotate_left
                                · simp only [Act.put, List.setIfInBounds_toArray, List.set_cons_zero, List.set_cons_succ, i64_w, i32_w]
                                  rfl
                                refine pure_ (i := 3) (N := some 42) (v := ?_) (a' := ?_) #[true, true, true, true, false, false, false, false, false, false, false, false, false, false, false, false] rfl rfl (any_of HT_.out (by kernel_rfl)) (fun _ _ _ h => h) (Or.inl ⟨by rfl, ?_⟩) ?_ ?_
                                rotate_left
                                · intro w'
                                  go_simp
                                  with_reducible rfl
                                rotate_left
                                · simp only [Act.put, List.setIfInBounds_toArray, List.set_cons_zero, List.set_cons_succ, i64_w, i32_w]
                                  rfl
                                refine pure_ (i := 4) (N := some 43) (v := ?_) (a' := ?_) #[true, true, true, true, true, false, false, false, false, false, false, false, false, false, false, false] rfl rfl (any_of HT_.out (by kernel_rfl)) (fun _ _ _ h => h) (Or.inl ⟨by rfl, ?_⟩) ?_ ?_
                                rotate_left
                                · intro w'
                                  go_simp
                                  with_reducible rfl
                                rotate_left
                                · simp only [Act.put, List.setIfInBounds_toArray, List.set_cons_zero, List.set_cons_succ, i64_w, i32_w]
                                  rfl
                                refine pure_ (i := 6) (N := some 45) (v := ?_) (a' := ?_) #[true, true, true, true, true, false, true, false, false, false, false, false, false, false, false, false] rfl rfl (any_of HT_.out (by kernel_rfl)) (fun _ _ _ h => h) (Or.inl ⟨by rfl, ?_⟩) ?_ ?_
                                rotate_left
                                · intro w'
                                  go_simp
                                  with_reducible rfl
                                rotate_left
                                · simp only [Act.put, List.setIfInBounds_toArray, List.set_cons_zero, List.set_cons_succ, i64_w, i32_w]
                                  rfl
                                refine pure_ (i := 7) (N := some 46) (v := ?_) (a' := ?_) #[true, true, true, true, true, false, true, true, false, false, false, false, false, false, false, false] rfl rfl (any_of HT_.out (by kernel_rfl)) (fun _ _ _ h => h) (Or.inl ⟨by rfl, ?_⟩) ?_ ?_
                                rotate_left
                                · intro w'
                                  go_simp
                                  with_reducible rfl
                                rotate_left
                                · simp only [Act.put, List.setIfInBounds_toArray, List.set_cons_zero, List.set_cons_succ, i64_w, i32_w]
                                  rfl
                                refine pure_ (i := 8) (N := some 47) (v := ?_) (a' := ?_) #[true, true, true, true, true, false, true, true, true, false, false, false, false, false, false, false] rfl rfl (any_of HT_.out (by kernel_rfl)) (fun _ _ _ h => h) (Or.inl ⟨by rfl, ?_⟩) ?_ ?_
                                rotate_left
                                · intro w'
                                  go_simp
                                  with_reducible rfl
                                rotate_left
                                · simp only [Act.put, List.setIfInBounds_toArray, List.set_cons_zero, List.set_cons_succ, i64_w, i32_w]
                                  rfl
                                refine pure_ (i := 10) (N := some 49) (v := ?_) (a' := ?_) #[true, true, true, true, true, false, true, true, true, false, true, false, false, false, false, false] rfl rfl (any_of HT_.out (by kernel_rfl)) (fun _ _ _ h => h) (Or.inl ⟨by rfl, ?_⟩) ?_ ?_
                                rotate_left
                                · intro w'
                                  go_simp
                                  with_reducible rfl
                                rotate_left
                                · simp only [Act.put, List.setIfInBounds_toArray, List.set_cons_zero, List.set_cons_succ, i64_w, i32_w]
                                  rfl
                                refine take_ (i := 5) (N := some 44) (v := ?_) (a' := ?_) #[true, true, true, true, true, true, true, true, true, false, true, false, false, false, false, false] rfl rfl (take_ofW HT_.out HW_.out (by kernel_rfl)) (fun _ _ _ h => h) (Or.inl ⟨by rfl, ?_⟩) hHeld ?_ ?_
                                rotate_left
                                · rintro w' ⟨s0, s1, s2⟩
                                  go_simp
                                  with_reducible rfl
                                rotate_left
                                · simp only [Act.put, List.setIfInBounds_toArray, List.set_cons_zero, List.set_cons_succ, i64_w, i32_w]
                                  rfl
                                refine take_ (i := 9) (N := some 48) (v := ?_) (a' := ?_) #[true, true, true, true, true, true, true, true, true, true, true, false, false, false, false, false] rfl rfl (take_ofW HT_.out HW_.out (by kernel_rfl)) (fun _ _ _ h => h) (Or.inl ⟨by rfl, ?_⟩) hHeld ?_ ?_
                                rotate_left
                                · rintro w' ⟨s0, s1, s2⟩
                                  go_simp
                                  with_reducible rfl
                                rotate_left
                                · simp only [Act.put, List.setIfInBounds_toArray, List.set_cons_zero, List.set_cons_succ, i64_w, i32_w]
                                  rfl
                                refine pure_ (i := 11) (N := some 50) (v := ?_) (a' := ?_) #[true, true, true, true, true, true, true, true, true, true, true, true, false, false, false, false] rfl rfl (any_of HT_.out (by kernel_rfl)) (fun _ _ _ h => h) (Or.inl ⟨by rfl, ?_⟩) ?_ ?_
                                rotate_left
                                · intro w'
                                  go_simp
                                  with_reducible rfl
                                rotate_left
                                · simp only [Act.put, List.setIfInBounds_toArray, List.set_cons_zero, List.set_cons_succ, i64_w, i32_w]
                                  rfl
                                refine take_ (i := 12) (N := some 51) (v := ?_) (a' := ?_) #[true, true, true, true, true, true, true, true, true, true, true, true, true, false, false, false] rfl rfl (take_ofW HT_.out HW_.out (by kernel_rfl)) (fun _ _ _ h => h) (Or.inl ⟨by rfl, ?_⟩) hHeld ?_ ?_
                                rotate_left
                                · rintro w' ⟨s0, s1, s2⟩
                                  go_simp
                                  with_reducible rfl
                                rotate_left
                                · simp only [Act.put, List.setIfInBounds_toArray, List.set_cons_zero, List.set_cons_succ, i64_w, i32_w]
                                  rfl
                                refine pure_ (i := 13) (N := some 52) (v := ?_) (a' := ?_) #[true, true, true, true, true, true, true, true, true, true, true, true, true, true, false, false] rfl rfl (any_of HT_.out (by kernel_rfl)) (fun _ _ _ h => h) (Or.inl ⟨by rfl, ?_⟩) ?_ ?_
                                rotate_left
                                · intro w'
                                  go_simp
                                  with_reducible rfl
                                rotate_left
                                · simp only [Act.put, List.setIfInBounds_toArray, List.set_cons_zero, List.set_cons_succ, i64_w, i32_w]
                                  rfl
                                refine pure_ (i := 14) (N := some 53) (v := ?_) (a' := ?_) #[true, true, true, true, true, true, true, true, true, true, true, true, true, true, true, false] rfl rfl (any_of HT_.out (by kernel_rfl)) (fun _ _ _ h => h) (Or.inl ⟨by rfl, ?_⟩) ?_ ?_
                                rotate_left
                                · intro w'
                                  go_simp
                                  with_reducible rfl
                                rotate_left
                                · simp only [Act.put, List.setIfInBounds_toArray, List.set_cons_zero, List.set_cons_succ, i64_w, i32_w]
                                  rfl
                                refine last_ (i := 15) (N := none) #[true, true, true, true, true, true, true, true, true, true, true, true, true, true, true, true] rfl rfl (one_of HT_.out (by kernel_rfl)) (by decide) (fun K hK => ?_)
                                refine skip_ (w1 := ?_) (by rfl) rfl ?_ ?_
                                rotate_left
                                · go_simp
                                  rfl
                                refine hK.out _ _ ?_
                                clear hK K
                                refine done_ (done_of HT_.out (by kernel_rfl)) ?_
                                try go_wp2
                                have n0_ : Aside0 (Kd.R (Kd.int .u8) 5 (w26.setCell ⟨go22, (x8_2 : Int).toNat, none⟩ (.int .u8 (Go.bits .xor .u8 (rd x4_2 x8_2) (rd (rd_L1 l0 x6_1) x8_2)))) w.heap.size (fun k_ => some k_ ≠ (v117 : Value).ownBlock) (.slice (some ⟨go22, 0, none⟩) x4_2.length co27) y124) := ⟨by (with_reducible repeat (first | apply Kd.R_alloc | apply Kd.R_drewN | apply Kd.R_drew)); exact HQ28.out⟩
                                have n1_ : Aside0 (Kd.R (Kd.int .u8) 5 (w26.setCell ⟨go22, (x8_2 : Int).toNat, none⟩ (.int .u8 (Go.bits .xor .u8 (rd x4_2 x8_2) (rd (rd_L1 l0 x6_1) x8_2)))) w.heap.size (fun k_ => some k_ ≠ (.slice (some ⟨go22, 0, none⟩) x4_2.length co27 : Value).ownBlock) v117 x5_2) := ⟨by (with_reducible repeat (first | apply Kd.R_alloc | apply Kd.R_drewN | apply Kd.R_drew)); exact Kd.R_mono (Kd.R_far (p := ⟨go22, (x8_2 : Int).toNat, none⟩) (Kd.R_mono HO_5.out (fun k_ hk => (⟨hk, fun e_ => hk (by rw [e_]; rfl)⟩ : _ ∧ k_ ≠ go22))) (fun _ hk => hk.2) (.int .u8 (Go.bits .xor .u8 (rd x4_2 x8_2) (rd (rd_L1 l0 x6_1) x8_2)))) (fun _ hk => hk.1)⟩
                                have n2_ : Aside0 (Below w.heap.size w (w26.setCell ⟨go22, (x8_2 : Int).toNat, none⟩ (.int .u8 (Go.bits .xor .u8 (rd x4_2 x8_2) (rd (rd_L1 l0 x6_1) x8_2))))) := ⟨by repeat (first | (with_reducible first | exact HB.out | apply below_alloc | apply pw_below_drewN | apply below_drew1 | refine below_set ?_ GB22.out) | exact HB.out)⟩
                                (try clear HO_4)
                                (try clear HO_5)
                                (try clear HB)
                                generalize (w26.setCell ⟨go22, (x8_2 : Int).toNat, none⟩ (.int .u8 (Go.bits .xor .u8 (rd x4_2 x8_2) (rd (rd_L1 l0 x6_1) x8_2)))) = w29 at n0_ n1_ n2_ ⊢
                                have HO_4 := n0_
                                have HO_5 := n1_
                                have HB := n2_
                                clear n0_ n1_ n2_
                                have n0_ := Aside0.mk (Kd.R_drew HO_4.out)
                                have n1_ := Aside0.mk (Kd.R_drew HO_5.out)
                                have n2_ := Aside0.mk (below_drew1 HB.out)
                                clear HO_4
                                clear HO_5
                                clear HB
                                have HO_4 := n0_
                                have HO_5 := n1_
                                have HB := n2_
                                clear n0_ n1_ n2_
                                obtain ⟨Ao31, co31, eo31⟩ := Kd.R_slice HO_5.out
                                (first | subst eo31 | (injection eo31 with f1_ f2_ f3_; have f4_ := f1_.symm; have f5_ := f3_.symm; clear f1_ f2_ f3_; subst f4_; subst f5_))
                                have p125 : 0 ≤ (x8_2 : Int) := of_decide_eq_true (by first | (with_reducible assumption) | assumption)
                                have q125 : x8_2 < (x5_2.length : Int) := of_decide_eq_true (by first | (with_reducible assumption) | assumption)
                                obtain ⟨ad125, e125, hx125_0⟩ := Kd.at_int (Kd.R_reads' HO_5.out).2.2 x8_2 p125 q125
                                cases e125
                                replace p125 := eq_true p125
                                replace q125 := eq_true q125
                                have p126 : 0 ≤ (x6_1 : Int) := of_decide_eq_true (by first | (with_reducible assumption) | assumption)
                                have q126 : x6_1 < (l0.length : Int) := of_decide_eq_true (by first | (with_reducible assumption) | assumption)
                                obtain ⟨ad126, A126_0, c126_0, e126, hx126_0, hl126_0, hi126_0⟩ := at_L1 HR0.out x6_1 p126 q126
                                have hw126_0 := hx126_0
                                obtain rfl : ad111 = ad126 := (by injection e126)
                                replace hx126_0 := (HB.out.cell (World.block_lt_of_cell? w _ hx126_0)).trans hx126_0
                                have HR126_0 := Aside0.mk hi126_0
                                have HC126_0 := Aside0.mk hl126_0
                                clear hi126_0 hl126_0
                                replace p126 := eq_true p126
                                replace q126 := eq_true q126
                                have p127 : 0 ≤ (x8_2 : Int) := of_decide_eq_true (by first | (with_reducible assumption) | assumption)
                                have q127 : x8_2 < ((rd_L1 l0 x6_1).length : Int) := of_decide_eq_true (by first | (with_reducible assumption) | assumption)
                                obtain ⟨ad127, e127, hx127_0⟩ := Kd.at_int HR126_0.out x8_2 p127 q127
                                have hw127_0 := hx127_0
                                cases e127
                                replace hx127_0 := (HB.out.cell (World.block_lt_of_cell? w _ hx127_0)).trans hx127_0
                                replace p127 := eq_true p127
                                replace q127 := eq_true q127
                                refine start_ (n := 18) (S := fun w' => w'.cell? (ad125.add (x8_2).toNat) = some (.int .u8 (rd x5_2 x8_2)) ∧ w'.cell? (ad111.add (x6_1).toNat) = some (.slice (some ad127) (rd_L1 l0 x6_1).length c126_0) ∧ w'.cell? (ad127.add (x8_2).toNat) = some (.int .u8 (rd (rd_L1 l0 x6_1) x8_2))) (ds := [17]) #[false, false, false, false, false, false, false, false, false, false, false, false, false, false, false, false, false, false] (by kernel_rfl) rfl rfl ⟨hx125_0, ((HB.out.cell (World.block_lt_of_cell? w _ hw126_0)).trans hw126_0), ((HB.out.cell (World.block_lt_of_cell? w _ hw127_0)).trans hw127_0)⟩ (fun hHeld => ?_); refine with_tabW ramekinref5_Parity.tab12 ramekinref5_Parity.bits12 (fun HT_ HW_ => ?_)
                                generalize w29.drew = w30 at HO_4 HO_5 HB HQ28 HR126_0 hx125_0 hx126_0 hx127_0 hHeld ⊢
                                refine pure_ (i := 0) (N := some 54) (v := ?_) (a' := ?_) #[true, false, false, false, false, false, false, false, false, false, false, false, false, false, false, false, false, false] rfl rfl (any_of HT_.out (by kernel_rfl)) (fun _ _ _ h => h) (Or.inl ⟨by rfl, ?_⟩) ?_ ?_
                                rotate_left
                                · intro w'
                                  go_simp
                                  with_reducible rfl
                                rotate_left
                                · simp only [Act.put, List.setIfInBounds_toArray, List.set_cons_zero, List.set_cons_succ, i64_w, i32_w]
                                  rfl
                                refine pure_ (i := 1) (N := some 55) (v := ?_) (a' := ?_) #[true, true, false, false, false, false, false, false, false, false, false, false, false, false, false, false, false, false] rfl rfl (any_of HT_.out (by kernel_rfl)) (fun _ _ _ h => h) (Or.inl ⟨by rfl, ?_⟩) ?_ ?_
                                rotate_left
                                · intro w'
                                  go_simp
                                  with_reducible rfl
                                rotate_left
                                · simp only [Act.put, List.setIfInBounds_toArray, List.set_cons_zero, List.set_cons_succ, i64_w, i32_w]
                                  rfl
                                refine pure_ (i := 2) (N := some 56) (v := ?_) (a' := ?_) #[true, true, true, false, false, false, false, false, false, false, false, false, false, false, false, false, false, false] rfl rfl (any_of HT_.out (by kernel_rfl)) (fun _ _ _ h => h) (Or.inl ⟨by rfl, ?_⟩) ?_ ?_
                                rotate_left
                                · intro w'
                                  go_simp
                                  with_reducible rfl
                                rotate_left
                                · simp only [Act.put, List.setIfInBounds_toArray, List.set_cons_zero, List.set_cons_succ, i64_w, i32_w]
                                  rfl
                                refine pure_ (i := 3) (N := some 57) (v := ?_) (a' := ?_) #[true, true, true, true, false, false, false, false, false, false, false, false, false, false, false, false, false, false] rfl rfl (any_of HT_.out (by kernel_rfl)) (fun _ _ _ h => h) (Or.inl ⟨by rfl, ?_⟩) ?_ ?_
                                rotate_left
                                · intro w'
                                  go_simp
                                  with_reducible rfl
                                rotate_left
                                · simp only [Act.put, List.setIfInBounds_toArray, List.set_cons_zero, List.set_cons_succ, i64_w, i32_w]
                                  rfl
                                refine pure_ (i := 4) (N := some 58) (v := ?_) (a' := ?_) #[true, true, true, true, true, false, false, false, false, false, false, false, false, false, false, false, false, false] rfl rfl (any_of HT_.out (by kernel_rfl)) (fun _ _ _ h => h) (Or.inl ⟨by rfl, ?_⟩) ?_ ?_
                                rotate_left
                                · intro w'
                                  go_simp
                                  with_reducible rfl
                                rotate_left
                                · simp only [Act.put, List.setIfInBounds_toArray, List.set_cons_zero, List.set_cons_succ, i64_w, i32_w]
                                  rfl
                                refine pure_ (i := 6) (N := some 60) (v := ?_) (a' := ?_) #[true, true, true, true, true, false, true, false, false, false, false, false, false, false, false, false, false, false] rfl rfl (any_of HT_.out (by kernel_rfl)) (fun _ _ _ h => h) (Or.inl ⟨by rfl, ?_⟩) ?_ ?_
                                rotate_left
                                · intro w'
                                  go_simp
                                  with_reducible rfl
                                rotate_left
                                · simp only [Act.put, List.setIfInBounds_toArray, List.set_cons_zero, List.set_cons_succ, i64_w, i32_w]
                                  rfl
                                refine pure_ (i := 7) (N := some 61) (v := ?_) (a' := ?_) #[true, true, true, true, true, false, true, true, false, false, false, false, false, false, false, false, false, false] rfl rfl (any_of HT_.out (by kernel_rfl)) (fun _ _ _ h => h) (Or.inl ⟨by rfl, ?_⟩) ?_ ?_
                                rotate_left
                                · intro w'
                                  go_simp
                                  with_reducible rfl
                                rotate_left
                                · simp only [Act.put, List.setIfInBounds_toArray, List.set_cons_zero, List.set_cons_succ, i64_w, i32_w]
                                  rfl
                                refine pure_ (i := 8) (N := some 62) (v := ?_) (a' := ?_) #[true, true, true, true, true, false, true, true, true, false, false, false, false, false, false, false, false, false] rfl rfl (any_of HT_.out (by kernel_rfl)) (fun _ _ _ h => h) (Or.inl ⟨by rfl, ?_⟩) ?_ ?_
                                rotate_left
                                · intro w'
                                  go_simp
                                  with_reducible rfl
                                rotate_left
                                · simp only [Act.put, List.setIfInBounds_toArray, List.set_cons_zero, List.set_cons_succ, i64_w, i32_w]
                                  rfl
                                refine pure_ (i := 9) (N := some 63) (v := ?_) (a' := ?_) #[true, true, true, true, true, false, true, true, true, true, false, false, false, false, false, false, false, false] rfl rfl (any_of HT_.out (by kernel_rfl)) (fun _ _ _ h => h) (Or.inl ⟨by rfl, ?_⟩) ?_ ?_
                                rotate_left
                                · intro w'
                                  go_simp
                                  with_reducible rfl
                                rotate_left
                                · simp only [Act.put, List.setIfInBounds_toArray, List.set_cons_zero, List.set_cons_succ, i64_w, i32_w]
                                  rfl
                                refine pure_ (i := 11) (N := some 65) (v := ?_) (a' := ?_) #[true, true, true, true, true, false, true, true, true, true, false, true, false, false, false, false, false, false] rfl rfl (any_of HT_.out (by kernel_rfl)) (fun _ _ _ h => h) (Or.inl ⟨by rfl, ?_⟩) ?_ ?_
                                rotate_left
                                · intro w'
                                  go_simp
                                  with_reducible rfl
                                rotate_left
                                · simp only [Act.put, List.setIfInBounds_toArray, List.set_cons_zero, List.set_cons_succ, i64_w, i32_w]
                                  rfl
                                refine take_ (i := 5) (N := some 59) (v := ?_) (a' := ?_) #[true, true, true, true, true, true, true, true, true, true, false, true, false, false, false, false, false, false] rfl rfl (take_ofW HT_.out HW_.out (by kernel_rfl)) (fun _ _ _ h => h) (Or.inl ⟨by rfl, ?_⟩) hHeld ?_ ?_
                                rotate_left
                                · rintro w' ⟨s0, s1, s2⟩
                                  go_simp
                                  with_reducible rfl
                                rotate_left
                                · simp only [Act.put, List.setIfInBounds_toArray, List.set_cons_zero, List.set_cons_succ, i64_w, i32_w]
                                  rfl
                                refine take_ (i := 10) (N := some 64) (v := ?_) (a' := ?_) #[true, true, true, true, true, true, true, true, true, true, true, true, false, false, false, false, false, false] rfl rfl (take_ofW HT_.out HW_.out (by kernel_rfl)) (fun _ _ _ h => h) (Or.inl ⟨by rfl, ?_⟩) hHeld ?_ ?_
                                rotate_left
                                · rintro w' ⟨s0, s1, s2⟩
                                  go_simp
                                  with_reducible rfl
                                rotate_left
                                · simp only [Act.put, List.setIfInBounds_toArray, List.set_cons_zero, List.set_cons_succ, i64_w, i32_w]
                                  rfl
                                refine pure_ (i := 12) (N := some 66) (v := ?_) (a' := ?_) #[true, true, true, true, true, true, true, true, true, true, true, true, true, false, false, false, false, false] rfl rfl (any_of HT_.out (by kernel_rfl)) (fun _ _ _ h => h) (Or.inl ⟨by rfl, ?_⟩) ?_ ?_
                                rotate_left
                                · intro w'
                                  go_simp
                                  with_reducible rfl
                                rotate_left
                                · simp only [Act.put, List.setIfInBounds_toArray, List.set_cons_zero, List.set_cons_succ, i64_w, i32_w]
                                  rfl
                                refine take_ (i := 13) (N := some 67) (v := ?_) (a' := ?_) #[true, true, true, true, true, true, true, true, true, true, true, true, true, true, false, false, false, false] rfl rfl (take_ofW HT_.out HW_.out (by kernel_rfl)) (fun _ _ _ h => h) (Or.inl ⟨by rfl, ?_⟩) hHeld ?_ ?_
                                rotate_left
                                · rintro w' ⟨s0, s1, s2⟩
                                  go_simp
                                  with_reducible rfl
                                rotate_left
                                · simp only [Act.put, List.setIfInBounds_toArray, List.set_cons_zero, List.set_cons_succ, i64_w, i32_w]
                                  rfl
                                refine one_ (i := 14) (N := some 68) #[true, true, true, true, true, true, true, true, true, true, true, true, true, true, true, false, false, false] rfl rfl (one_of HT_.out (by kernel_rfl)) (by decide) (fun K hK => ?_)
                                refine goes_ Try.func56 (by kernel_rfl) rfl #[.int .u8 t119, .int .u8 (rd (rd_L1 l0 x6_1) x8_2)] (by rfl) rfl rfl (by (try simp only [List.map_toArray, List.map_cons, List.map_nil]); first | done | rfl | (simp only [List.length_drop, List.length_take]; rfl)) ?_
                                with_reducible refine (ramekinref2_Mul.calls t119 (rd (rd_L1 l0 x6_1) x8_2) t128 _ A24.out).mono ?_
                                rintro e w32 ⟨rfl, hb⟩
                                have HS0_ := (hb.cell (World.block_lt_of_cell? _ _ (hHeld.1))).trans (hHeld.1)
                                refine ⟨_, rfl, ?_⟩
                                have n0_ := Aside0.mk (Kd.R_below (by (with_reducible repeat (first | apply Kd.R_alloc | apply Kd.R_drewN | apply Kd.R_drew)); exact HO_4.out) hb)
                                have n1_ := Aside0.mk (Kd.R_below (by (with_reducible repeat (first | apply Kd.R_alloc | apply Kd.R_drewN | apply Kd.R_drew)); exact HO_5.out) hb)
                                have n2_ := Aside0.mk (below_step (by repeat (first | (with_reducible first | exact HB.out | apply below_alloc | apply pw_below_drewN | apply below_drew1) | exact HB.out)) hb)
                                clear HO_4
                                clear HO_5
                                clear HB
                                have HO_4 := n0_
                                have HO_5 := n1_
                                have HB := n2_
                                clear n0_ n1_ n2_
                                (try clear hb)
                                (try clear hb2)
                                (try clear hk)
                                (try clear hi)
                                have p25 : 0 ≤ (x8_2 : Int) := of_decide_eq_true (by first | (with_reducible assumption) | assumption)
                                have q25 : (x8_2 : Int) < ((x5_2.length : Int) : Int) := of_decide_eq_true (by first | (with_reducible assumption) | assumption)
                                obtain ⟨go25, co25, eo25, gb25, gl25, cl25, HG25⟩ := Kd.R_form HO_5.out (by omega)
                                (first | cases eo25 | (injection eo25 with ea_ en_ ec_; (first | subst ea_ | (injection ea_ with ea_; subst ea_)); subst ec_; clear en_))
                                have GB25 := Aside0.mk gb25
                                have GG25 := Aside0.mk HG25
                                clear gb25 gl25 HG25
                                (first | simp only [add_plain] at hx125_0 | skip)
                                obtain ⟨hx25_0, hf25_0⟩ := Kd.R_celln 0 HO_5.out (x8_2 : Int) p25 q25
                                replace p25 := eq_true p25
                                replace q25 := eq_true q25
                                have HP33 := Kd.R_putn HO_5.out (x8_2 : Int) (Go.bits .xor .u8 (rd x5_2 x8_2) t128)
                                rw [← Ny129.out] at HP33
                                have HQ33 := Aside0.mk HP33
                                clear HP33
                                refine hK.out _ _ ⟨HS0_, ((HB.out.cell (World.block_lt_of_cell? w _ hw126_0)).trans hw126_0), ((HB.out.cell (World.block_lt_of_cell? w _ hw127_0)).trans hw127_0)⟩ (fun hHeld => ?_)
                                clear hK K
                                refine norm_ (a' := ?_) ?_ ?_
                                rotate_left
                                · show Act.put _ (some 68) _ = _
                                  simp only [Act.put, List.setIfInBounds_toArray, List.set_cons_zero, List.set_cons_succ, i64_w, i32_w]
                                  rfl
                                refine pure_ (i := 15) (N := some 69) (v := ?_) (a' := ?_) #[true, true, true, true, true, true, true, true, true, true, true, true, true, true, true, true, false, false] rfl rfl (any_of HT_.out (by kernel_rfl)) (fun _ _ _ h => h) (Or.inl ⟨by rfl, ?_⟩) ?_ ?_
                                rotate_left
                                · intro w'
                                  go_simp
                                  with_reducible rfl
                                rotate_left
                                · simp only [Act.put, List.setIfInBounds_toArray, List.set_cons_zero, List.set_cons_succ, i64_w, i32_w]
                                  rfl
                                refine pure_ (i := 16) (N := some 70) (v := ?_) (a' := ?_) #[true, true, true, true, true, true, true, true, true, true, true, true, true, true, true, true, true, false] rfl rfl (any_of HT_.out (by kernel_rfl)) (fun _ _ _ h => h) (Or.inl ⟨by rfl, ?_⟩) ?_ ?_
                                rotate_left
                                · intro w'
                                  go_simp
                                  with_reducible rfl
                                rotate_left
                                · simp only [Act.put, List.setIfInBounds_toArray, List.set_cons_zero, List.set_cons_succ, i64_w, i32_w]
                                  rfl
                                refine last_ (i := 17) (N := none) #[true, true, true, true, true, true, true, true, true, true, true, true, true, true, true, true, true, true] rfl rfl (one_of HT_.out (by kernel_rfl)) (by decide) (fun K hK => ?_)
                                refine skip_ (w1 := ?_) (by rfl) rfl ?_ ?_
                                rotate_left
                                · go_simp
                                  rfl
                                refine hK.out _ _ ?_
                                clear hK K
                                refine done_ (done_of HT_.out (by kernel_rfl)) ?_
                                try go_wp2
                                go_roundg k2
                                case measure => have := HK1.out; have := HK2.out; omega
                                case rel => exact ⟨(y124), (y129), (wrap64 (x8_2 + 1)), (by first | rfl | (simp; done) | (simp [*]; done)), H', ⟨by have := HK1.out; have := HK2.out; omega⟩, ⟨by (with_reducible repeat (first | apply Kd.R_alloc | apply Kd.R_drewN | apply Kd.R_drew)); exact Kd.R_mono (Kd.R_far (p := ⟨go25, (x8_2 : Int).toNat, none⟩) (Kd.R_mono HO_4.out (fun k_ hk => (⟨hk, fun e_ => hk (by rw [e_]; rfl)⟩ : _ ∧ k_ ≠ go25))) (fun _ hk => hk.2) (.int .u8 (Go.bits .xor .u8 (rd x5_2 x8_2) t128))) (fun _ hk => hk.1)⟩, ⟨by (with_reducible repeat (first | apply Kd.R_alloc | apply Kd.R_drewN | apply Kd.R_drew)); exact HQ33.out⟩, ⟨by repeat (first | (with_reducible first | exact HB.out | apply below_alloc | apply pw_below_drewN | apply below_drew1 | refine below_set ?_ GB25.out) | exact HB.out)⟩⟩
                              · rw [if_neg c23] at H
                                exact absurd H (by simp)
                            · rw [if_neg c21] at H
                              exact absurd H (by simp)
                          · rw [if_neg c20] at H
                            exact absurd H (by simp)
                        · rw [if_neg c19] at H
                          have c19b0 : decide (x8_2 < ((rd_L1 l0 x6_1).length : Int)) = false := decide_eq_false c19
                          clear c19
                          have H' := Aside0.mk H
                          clear H
                          have p120 : 0 ≤ (x6_1 : Int) := of_decide_eq_true (by first | (with_reducible assumption) | assumption)
                          have q120 : x6_1 < (l0.length : Int) := of_decide_eq_true (by first | (with_reducible assumption) | assumption)
                          obtain ⟨ad120, A120_0, c120_0, e120, hx120_0, hl120_0, hi120_0⟩ := at_L1 HR0.out x6_1 p120 q120
                          obtain rfl : ad111 = ad120 := (by injection e120)
                          replace hx120_0 := (HB.out.cell (World.block_lt_of_cell? w _ hx120_0)).trans hx120_0
                          have HR120_0 := Aside0.mk hi120_0
                          have HC120_0 := Aside0.mk hl120_0
                          clear hi120_0 hl120_0
                          replace p120 := eq_true p120
                          replace q120 := eq_true q120
                          go_wp2
                          go_roundg k2
                          case measure => have := HK1.out; have := HK2.out; omega
                          case rel => exact ⟨(x4_2), (x5_2), (wrap64 (x6_1 + 1)), (by first | rfl | (simp; done) | (simp [*]; done)), H', ⟨by have := HK1.out; have := HK2.out; omega⟩, ⟨by (with_reducible repeat (first | apply Kd.R_alloc | apply Kd.R_drewN | apply Kd.R_drew)); exact HO_4.out⟩, ⟨by (with_reducible repeat (first | apply Kd.R_alloc | apply Kd.R_drewN | apply Kd.R_drew)); exact HO_5.out⟩, ⟨by repeat (first | (with_reducible first | exact HB.out | apply below_alloc | apply pw_below_drewN | apply below_drew1) | exact HB.out)⟩⟩
                      · rw [if_neg c18] at H
                        exact absurd H (by simp)
                    · rw [if_neg c17] at H
                      exact absurd H (by simp)
              · rw [if_neg c14] at H
                have c14b0 : decide (x6_1 < (l0.length : Int)) = false := decide_eq_false c14
                clear c14
                simp only [Option.some.injEq, Prod.mk.injEq] at H
                obtain ⟨rfl, rfl⟩ := H
                go_wp2
                go_ret2
                exact ⟨_, _, by first | rfl | (simp [errW_none, errW_some] <;> rfl) | (simp [*, errW_none, errW_some] <;> rfl), by (with_reducible repeat (first | apply Kd.R_alloc | apply Kd.R_drewN | apply Kd.R_drew)); exact HO_4.out, by (with_reducible repeat (first | apply Kd.R_alloc | apply Kd.R_drewN | apply Kd.R_drew)); exact HO_5.out, by repeat (first | (with_reducible first | exact HB.out | apply below_alloc | apply pw_below_drewN | apply below_drew1) | exact HB.out)⟩
        · rw [if_neg c6] at H
          exact absurd H (by simp)
      · rw [if_neg c5] at H
        exact absurd H (by simp)
    · rw [if_neg c4] at H
      exact absurd H (by simp)
  · replace c3 := Bool.eq_false_iff.mpr c3
    subst c3
    have H1 : (some (([] : List Int), ([] : List Int))) = some (r1, r2) := by rw [if_neg (show ¬ (false = true) by decide)] at H; exact H
    clear H
    have H := H1
    clear H1
    simp only [Option.some.injEq, Prod.mk.injEq] at H
    obtain ⟨rfl, rfl⟩ := H
    go_enter Try.func34, Try.ntmps34
    go_wp2_with (first | ((with_reducible refine gate_callee (f := 39) rfl ?_); refine goesL_ (some 10) rfl rfl Try.func39 (by kernel_rfl) rfl #[.slice A0 l0.length c0, .int .i64 2, .int .i64 14] rfl (by (try simp only [List.map_toArray, List.map_cons, List.map_nil]); first | done | rfl | (simp only [List.length_drop, List.length_take]; rfl)) ?_; (with_reducible refine (ramekinref5_even.calls _ _ l0 2 14 false _ ?side1 ?side2 A2.out).mono ?_); (case side1 => repeat (first | exact HR0.out | (with_reducible refine Kd.C_alloc ?_ _) | (with_reducible refine Kd.C_drewN ?_ _) | (with_reducible refine Kd.C_drew ?_))); (case side2 => exact HC0.out); rintro e w34 ⟨rfl, hb⟩; refine ⟨_, rfl, ?_⟩; have n0_ := Aside0.mk (below_step (by repeat (first | (with_reducible first | exact HB.out | apply below_alloc | apply pw_below_drewN | apply below_drew1) | exact HB.out)) hb); clear HB; have HB := n0_; clear n0_; (try clear hb); (try clear hb2); (try clear hk); (try clear hi)))
    go_ret2
    exact ⟨_, _, by first | rfl | (simp [errW_none, errW_some] <;> rfl) | (simp [*, errW_none, errW_some] <;> rfl), by first | exact Kd.R_nil _ _ _ _ _ | exact Kd.N_nil _ _ _ _ _ | exact Kd.V_nil _ _ _ _ _ | exact Kd.Q_nil _ _ _ _ _ | exact Kd.S_nil _ _ _ _ _, by first | exact Kd.R_nil _ _ _ _ _ | exact Kd.N_nil _ _ _ _ _ | exact Kd.V_nil _ _ _ _ _ | exact Kd.Q_nil _ _ _ _ _ | exact Kd.S_nil _ _ _ _ _, by repeat (first | (with_reducible first | exact HB.out | apply below_alloc | apply pw_below_drewN | apply below_drew1) | exact HB.out)⟩
end Go.Proofs.Ytibileffpgnjhaa.PRr
namespace Go.Proofs.Ytibileffpgnjhaa.PRr
open Go.RowKit Go.Proofs.YtibileffpgnjhaaW.PrintWords Go.Proofs.YtibileffpgnjhaaW.PrintLast Go.Proofs.YtibileffpgnjhaaW.PrintMore
attribute [local go_sem] max2_int min2_int max_two min_two max_three min_three max_four min_four -- for this text's walks alone
set_option linter.unusedVariables false
set_option linter.unusedSimpArgs false
noncomputable def rs_Parity.f (l0 : List (List Int)) : Option (List Int × List Int) := Lim.lim (fun k_ => PRq.rs_Parity.f k_ l0)
theorem rs_Parity.calls (A0 : Option Addr) (c0 : Nat) (l0 : List (List Int)) (r1 : List Int) (r2 : List Int) (w : World) (hr0 : Kd.C (Kd.slice 5 (Kd.int .u8)) w A0 l0.length l0) (hc0 : l0.length ≤ c0) (h : rs_Parity.f l0 = some (r1, r2)) :
    Calls Try.prog 30 #[.slice A0 l0.length c0] w fun e w' => ∃ v0_ v1_ : Value, e = .returned (.tuple #[v0_, v1_]) ∧ Kd.R (Kd.int .u8) 5 w' w.heap.size (fun k_ => some k_ ≠ (v1_ : Value).ownBlock) v0_ r1 ∧ Kd.R (Kd.int .u8) 5 w' w.heap.size (fun k_ => some k_ ≠ (v0_ : Value).ownBlock) v1_ r2 ∧ Below w.heap.size w w' := by
  obtain ⟨k_, hk_⟩ := Lim.lim_some h
  first
  | exact PRq.rs_Parity.calls k_ A0 c0 l0 r1 r2 w hr0 hc0 hk_
  | exact (PRq.rs_Parity.calls k_ A0 c0 l0 r1 r2 w hr0 hc0 hk_).mono (fun _ _ h_ => ⟨h_.1, Lim.below_of_drewN h_.2⟩)
noncomputable def rs_alike.l0 : Nat → Int → List (List Int) → Int → Int → Option (Int × Bool)
  | 0, _, _, _, _ => none
  | k + 1, x4, x7, x8, x9 => if x9 < x8 then (if 0 ≤ x9 then (if x9 < (x7.length : Int) then (if x9 > 0 then (if ((rd_L1 x7 x9).length : Int) = x4 then (rs_alike.l0 k ((rd_L1 x7 x9).length : Int) x7 x8 (wrap64 (x9 + 1))) else (some (0, false))) else (rs_alike.l0 k ((rd_L1 x7 x9).length : Int) x7 x8 (wrap64 (x9 + 1)))) else (none)) else (none)) else (some (x4, true))
noncomputable def rs_alike.f (k : Nat) (l0 : List (List Int)) : Option (Int × Bool) := rs_alike.l0 k 0 l0 (l0.length : Int) 0
theorem rs_alike.mono_l : ∀ k, (∀ y0 y1 y2 y3, LeO (rs_alike.l0 k y0 y1 y2 y3) (rs_alike.l0 (k + 1) y0 y1 y2 y3))
  | 0 => fun _ _ _ _ r h => by simp [rs_alike.l0] at h
  | k + 1 => by
    have ih0 := rs_alike.mono_l k
    · intro y0 y1 y2 y3
      unfold rs_alike.l0
      repeat' first
      | (with_reducible exact ih0 _ _ _ _)
      | (with_reducible exact LeO.refl _)
      | (with_reducible exact LeO.none _)
      | (with_reducible refine LeO.ite ?_ ?_)
      | (with_reducible refine LeO.bind ?_ (fun _ => ?_))
      | exact ih0 _ _ _ _
      | exact LeO.none _
      | refine LeO.ite ?_ ?_
      | refine LeO.bind ?_ (fun _ => ?_)
theorem rs_alike.mono : ∀ a0 k, LeO (rs_alike.f k a0) (rs_alike.f (k + 1) a0) := by
  intro a0 k
  have ih0 := rs_alike.mono_l k
  unfold rs_alike.f
  repeat' first
      | (with_reducible exact ih0 _ _ _ _)
      | (with_reducible exact LeO.refl _)
      | (with_reducible exact LeO.none _)
      | (with_reducible refine LeO.ite ?_ ?_)
      | (with_reducible refine LeO.bind ?_ (fun _ => ?_))
      | exact ih0 _ _ _ _
      | exact LeO.none _
      | refine LeO.ite ?_ ?_
      | refine LeO.bind ?_ (fun _ => ?_)
set_option maxHeartbeats 8000000 in
set_option maxRecDepth 100000 in
theorem rs_alike.calls (k : Nat) (A0 : Option Addr) (c0 : Nat) (l0 : List (List Int)) (r1 : Int) (r2 : Bool) (w : World) (hr0 : Kd.C (Kd.slice 5 (Kd.int .u8)) w A0 l0.length l0) (hc0 : l0.length ≤ c0) (h : rs_alike.f k l0 = some (r1, r2)) :
    Calls Try.prog 50 #[.slice A0 l0.length c0] w fun e w' => e = .returned (.tuple #[.int .i64 r1, .bool r2]) ∧ Drawn0 w w' := by
  have HR0 := Aside0.mk hr0
  have HC0 := Aside0.mk hc0
  clear hr0 hc0
  have H : (rs_alike.l0 k 0 l0 (l0.length : Int) 0) = some (r1, r2) := h
  clear h
  have H' := Aside0.mk H
  clear H
  go_enter Try.func50, Try.ntmps50
  go_wp2
  go_loopg [4, 9] k (fun kq v4 v9 w' => ∃ (x4_1 : Int) (x9_1 : Int), v4 = .int .i64 x4_1 ∧ v9 = .int .i64 x9_1 ∧ Aside0 (rs_alike.l0 kq x4_1 l0 (l0.length : Int) x9_1 = some (r1, r2)) ∧ Aside0 (kq ≤ k) ∧ Drawn0 w w')
  case atStart => exact ⟨(0), (0), (by first | rfl | (simp; done) | (simp [*]; done)), (by first | rfl | (simp; done) | (simp [*]; done)), H', ⟨Nat.le_refl _⟩, by repeat (first | exact Drawn0.refl _ | apply Drawn0.step)⟩
  case round =>
    clear H'
    obtain ⟨x4_1, x9_1, rfl, rfl, HA, HK1, ⟨m1, rfl⟩⟩ := hrel
    cases gk with
    | zero => exact absurd HA.out (by simp [rs_alike.l0])
    | succ k1 =>
      have H := HA.out
      clear HA
      simp only [rs_alike.l0] at H
      by_cases c2 : x9_1 < (l0.length : Int)
      · rw [if_pos c2] at H
        have c2b0 : decide (x9_1 < (l0.length : Int)) = true := decide_eq_true c2
        clear c2
        by_cases c3 : 0 ≤ x9_1
        · rw [if_pos c3] at H
          have c3b0 : decide (0 ≤ x9_1) = true := decide_eq_true c3
          clear c3
          by_cases c4 : x9_1 < (l0.length : Int)
          · rw [if_pos c4] at H
            have c4b0 : decide (x9_1 < (l0.length : Int)) = true := decide_eq_true c4
            clear c4
            by_cases c5 : x9_1 > 0
            · rw [if_pos c5] at H
              have c5b0 : decide (0 < x9_1) = true := decide_eq_true c5
              clear c5
              by_cases c6 : ((rd_L1 l0 x9_1).length : Int) = x4_1
              · rw [if_pos c6] at H
                have c6b0 : (((rd_L1 l0 x9_1).length : Int) == x4_1) = true := beq_iff_eq.mpr c6
                have c6b1 : (((rd_L1 l0 x9_1).length : Int) != x4_1) = false := bne_eq_false_iff_eq.mpr c6
                clear c6
                have H' := Aside0.mk H
                clear H
                have p136 : 0 ≤ (x9_1 : Int) := of_decide_eq_true (by first | (with_reducible assumption) | assumption)
                have q136 : x9_1 < (l0.length : Int) := of_decide_eq_true (by first | (with_reducible assumption) | assumption)
                obtain ⟨ad136, A136_0, c136_0, e136, hx136_0, hl136_0, hi136_0⟩ := at_L1 HR0.out x9_1 p136 q136
                cases e136
                have HR136_0 := Aside0.mk hi136_0
                have HC136_0 := Aside0.mk hl136_0
                clear hi136_0 hl136_0
                replace p136 := eq_true p136
                replace q136 := eq_true q136
                go_wp2
                go_roundg k1
                case measure => have := HK1.out; omega
                case rel => exact ⟨(((rd_L1 l0 x9_1).length : Int)), (wrap64 (x9_1 + 1)), (by first | rfl | (simp; done) | (simp [*]; done)), (by first | rfl | (simp; done) | (simp [*]; done)), H', ⟨by have := HK1.out; omega⟩, by repeat (first | exact Drawn0.refl _ | apply Drawn0.step)⟩
              · rw [if_neg c6] at H
                have c6b0 : (((rd_L1 l0 x9_1).length : Int) == x4_1) = false := beq_eq_false_iff_ne.mpr c6
                have c6b1 : (((rd_L1 l0 x9_1).length : Int) != x4_1) = true := bne_iff_ne.mpr c6
                simp only [Option.some.injEq, Prod.mk.injEq] at H
                obtain ⟨rfl, rfl⟩ := H
                have p136 : 0 ≤ (x9_1 : Int) := of_decide_eq_true (by first | (with_reducible assumption) | assumption)
                have q136 : x9_1 < (l0.length : Int) := of_decide_eq_true (by first | (with_reducible assumption) | assumption)
                obtain ⟨ad136, A136_0, c136_0, e136, hx136_0, hl136_0, hi136_0⟩ := at_L1 HR0.out x9_1 p136 q136
                cases e136
                have HR136_0 := Aside0.mk hi136_0
                have HC136_0 := Aside0.mk hl136_0
                clear hi136_0 hl136_0
                replace p136 := eq_true p136
                replace q136 := eq_true q136
                go_wp2
                go_ret2
                exact ⟨by first | rfl | (simp; done) | (simp [*]; done), by repeat (first | exact Drawn0.refl _ | apply Drawn0.step)⟩
            · rw [if_neg c5] at H
              have c5b0 : decide (0 < x9_1) = false := decide_eq_false c5
              clear c5
              have H' := Aside0.mk H
              clear H
              have p136 : 0 ≤ (x9_1 : Int) := of_decide_eq_true (by first | (with_reducible assumption) | assumption)
              have q136 : x9_1 < (l0.length : Int) := of_decide_eq_true (by first | (with_reducible assumption) | assumption)
              obtain ⟨ad136, A136_0, c136_0, e136, hx136_0, hl136_0, hi136_0⟩ := at_L1 HR0.out x9_1 p136 q136
              cases e136
              have HR136_0 := Aside0.mk hi136_0
              have HC136_0 := Aside0.mk hl136_0
              clear hi136_0 hl136_0
              replace p136 := eq_true p136
              replace q136 := eq_true q136
              go_wp2
              go_roundg k1
              case measure => have := HK1.out; omega
              case rel => exact ⟨(((rd_L1 l0 x9_1).length : Int)), (wrap64 (x9_1 + 1)), (by first | rfl | (simp; done) | (simp [*]; done)), (by first | rfl | (simp; done) | (simp [*]; done)), H', ⟨by have := HK1.out; omega⟩, by repeat (first | exact Drawn0.refl _ | apply Drawn0.step)⟩
          · rw [if_neg c4] at H
            exact absurd H (by simp)
        · rw [if_neg c3] at H
          exact absurd H (by simp)
      · rw [if_neg c2] at H
        have c2b0 : decide (x9_1 < (l0.length : Int)) = false := decide_eq_false c2
        clear c2
        simp only [Option.some.injEq, Prod.mk.injEq] at H
        obtain ⟨rfl, rfl⟩ := H
        go_wp2
        go_ret2
        exact ⟨by first | rfl | (simp; done) | (simp [*]; done), by repeat (first | exact Drawn0.refl _ | apply Drawn0.step)⟩
noncomputable def slices_Equal_byte_byte.f (l0 : List Int) (l1 : List Int) : Option (Bool) := Lim.lim (fun k_ => PRq.slices_Equal_byte_byte.f k_ l0 l1)
theorem slices_Equal_byte_byte.calls (A0 : Option Addr) (c0 : Nat) (l0 : List Int) (A1 : Option Addr) (c1 : Nat) (l1 : List Int) (r : Bool) (w : World) (hr0 : Kd.C (Kd.int .u8) w A0 l0.length l0) (hc0 : l0.length ≤ c0) (hr1 : Kd.C (Kd.int .u8) w A1 l1.length l1) (hc1 : l1.length ≤ c1) (h : slices_Equal_byte_byte.f l0 l1 = some r) :
    Calls Try.prog 73 #[.slice A0 l0.length c0, .slice A1 l1.length c1] w fun e w' => e = .returned (.bool r) ∧ Drawn0 w w' := by
  obtain ⟨k_, hk_⟩ := Lim.lim_some h
  first
  | exact PRq.slices_Equal_byte_byte.calls k_ A0 c0 l0 A1 c1 l1 r w hr0 hc0 hr1 hc1 hk_
  | exact (PRq.slices_Equal_byte_byte.calls k_ A0 c0 l0 A1 c1 l1 r w hr0 hc0 hr1 hc1 hk_).mono (fun _ _ h_ => ⟨h_.1, Lim.below_of_drewN h_.2⟩)
noncomputable def rs_Check.j0 : Nat → List (List Int) → Bool → Option (Bool)
  | 0, _, _ => none
  | k + 1, x0, x24 => if x24 = true then (some false) else (if 0 ≤ (wrap64 ((x0.length : Int) - 2)) then (if (wrap64 ((x0.length : Int) - 2)) ≤ (x0.length : Int) then ((rs_Parity.f (x0.take ((wrap64 ((x0.length : Int) - 2)) : Int).toNat)).bind fun bt143 => (if (wrap64 ((x0.length : Int) - 2)) < (x0.length : Int) then ((slices_Equal_byte_byte.f bt143.1 (rd_L1 x0 (wrap64 ((x0.length : Int) - 2)))).bind fun t150 => (if t150 = true then (if 0 ≤ (wrap64 ((wrap64 ((x0.length : Int) - 2)) + 1)) then (if (wrap64 ((wrap64 ((x0.length : Int) - 2)) + 1)) < (x0.length : Int) then ((slices_Equal_byte_byte.f bt143.2 (rd_L1 x0 (wrap64 ((wrap64 ((x0.length : Int) - 2)) + 1)))).bind fun t152 => (some t152)) else (none)) else (none)) else (some false))) else (none))) else (none)) else (none))
noncomputable def rs_Check.f (k : Nat) (l0 : List (List Int)) : Option (Bool) := (rs_alike.f k l0).bind fun bt137 => (if bt137.2 = true then (if (l0.length : Int) < 4 then (rs_Check.j0 k l0 true) else (rs_Check.j0 k l0 (decide ((l0.length : Int) > 16)))) else (rs_Check.j0 k l0 true))
set_option maxHeartbeats 8000000 in
set_option maxRecDepth 100000 in
theorem rs_Check.calls (k : Nat) (A0 : Option Addr) (c0 : Nat) (l0 : List (List Int)) (r : Bool) (w : World) (hr0 : Kd.C (Kd.slice 5 (Kd.int .u8)) w A0 l0.length l0) (hc0 : l0.length ≤ c0) (h : rs_Check.f k l0 = some r) :
    Calls Try.prog 59 #[.slice A0 l0.length c0] w fun e w' => e = .returned (.bool r) ∧ Below w.heap.size w w' := by
  have HR0 := Aside0.mk hr0
  have HC0 := Aside0.mk hc0
  clear hr0 hc0
  have HB := Aside0.mk (Below.refl w.heap.size w)
  have H : ((rs_alike.f k l0).bind fun bt137 => (if bt137.2 = true then (if (l0.length : Int) < 4 then (rs_Check.j0 k l0 true) else (rs_Check.j0 k l0 (decide ((l0.length : Int) > 16)))) else (rs_Check.j0 k l0 true))) = some r := h
  clear h
  replace H := Option.bind_eq_some_iff.mp H
  obtain ⟨⟨t137, t138⟩, A20, H⟩ := H
  replace H : (if t138 = true then (if (l0.length : Int) < 4 then (rs_Check.j0 k l0 true) else (rs_Check.j0 k l0 (decide ((l0.length : Int) > 16)))) else (rs_Check.j0 k l0 true)) = some r := H
  have A2 := Aside0.mk A20
  clear A20
  have HC3 := Aside0.mk H
  clear H
  go_enter Try.func59, Try.ntmps59
  go_upto_region 2 with (first | ((with_reducible refine gate_callee (f := 50) rfl ?_); refine goesL_ (some 10) rfl rfl Try.func50 (by kernel_rfl) rfl #[.slice A0 l0.length c0] rfl (by (try simp only [List.map_toArray, List.map_cons, List.map_nil]); first | done | rfl | (simp only [List.length_drop, List.length_take]; rfl)) ?_; (with_reducible refine (rs_alike.calls k _ _ l0 t137 t138 _ ?side1 ?side2 A2.out).mono ?_); (case side1 => repeat (first | exact HR0.out | (with_reducible refine Kd.C_alloc ?_ _) | (with_reducible refine Kd.C_drewN ?_ _) | (with_reducible refine Kd.C_drew ?_))); (case side2 => exact HC0.out); rintro e w' ⟨rfl, ⟨nd, rfl⟩⟩; refine ⟨_, rfl, ?_⟩))
  (try simp only [Act.put, List.setIfInBounds_toArray, List.set_cons_zero, List.set_cons_succ])
  go_cut [24] (fun v24 wc => ∃ (kq : Nat) (x24_2 : Bool), v24 = .bool x24_2 ∧ Aside0 (rs_Check.j0 kq l0 x24_2 = some r) ∧ Aside0 (kq ≤ k) ∧ Aside0 (Below w.heap.size w wc))
  case first =>
    have H := HC3.out
    clear HC3
    by_cases c4 : t138 = true
    · subst c4
      have H1 : (if (l0.length : Int) < 4 then (rs_Check.j0 k l0 true) else (rs_Check.j0 k l0 (decide ((l0.length : Int) > 16)))) = some r := by rw [if_pos rfl] at H; exact H
      clear H
      have H := H1
      clear H1
      by_cases c5 : (l0.length : Int) < 4
      · rw [if_pos c5] at H
        have c5b0 : decide ((l0.length : Int) < 4) = true := decide_eq_true c5
        have c5b1 : decide (l0.length < 4) = true := decide_eq_true (by omega)
        clear c5
        (first | rw [c5b0] | (simp only [i64_w, i32_w]; rw [c5b0]) | skip)
        have H' := Aside0.mk H
        clear H
        go_wp2
        go_meet
        case rel => exact ⟨_, (true), (by first | rfl | (simp; done) | (simp [*]; done)), H', ⟨by first | omega | exact Nat.le_refl _⟩, ⟨by repeat (first | (with_reducible first | exact HB.out | apply below_alloc | apply pw_below_drewN | apply below_drew1) | exact HB.out)⟩⟩
      · rw [if_neg c5] at H
        have c5b0 : decide ((l0.length : Int) < 4) = false := decide_eq_false c5
        have c5b1 : decide (l0.length < 4) = false := decide_eq_false (by omega)
        clear c5
        (first | rw [c5b0] | (simp only [i64_w, i32_w]; rw [c5b0]) | skip)
        have H' := Aside0.mk H
        clear H
        go_wp2
        go_meet
        case rel => exact ⟨_, (decide ((l0.length : Int) > 16)), (by first | rfl | (simp; done) | (simp [*]; done)), H', ⟨by first | omega | exact Nat.le_refl _⟩, ⟨by repeat (first | (with_reducible first | exact HB.out | apply below_alloc | apply pw_below_drewN | apply below_drew1) | exact HB.out)⟩⟩
    · replace c4 := Bool.eq_false_iff.mpr c4
      subst c4
      have H1 : (rs_Check.j0 k l0 true) = some r := by rw [if_neg (show ¬ (false = true) by decide)] at H; exact H
      clear H
      have H := H1
      clear H1
      have H' := Aside0.mk H
      clear H
      go_wp2
      go_meet
      case rel => exact ⟨_, (true), (by first | rfl | (simp; done) | (simp [*]; done)), H', ⟨by first | omega | exact Nat.le_refl _⟩, ⟨by repeat (first | (with_reducible first | exact HB.out | apply below_alloc | apply pw_below_drewN | apply below_drew1) | exact HB.out)⟩⟩
  case rest =>
    clear HC3
    try clear p2
    try clear c4
    try clear c5
    try clear c5b0
    try clear c5b1
    obtain ⟨kq, x24_2, rfl, HA, HJ2, HB⟩ := hcut
    cases kq with
    | zero => exact absurd HA.out (by simp [rs_Check.j0])
    | succ kj2 =>
      have H := HA.out
      clear HA
      simp only [rs_Check.j0] at H
      by_cases c6 : x24_2 = true
      · subst c6
        have H1 : (some false) = some r := by rw [if_pos rfl] at H; exact H
        clear H
        have H := H1
        clear H1
        obtain rfl := Option.some.inj H
        go_wp2
        go_ret
        exact ⟨by first | rfl | (simp [errW_none, errW_some] <;> rfl) | (simp [*, errW_none, errW_some] <;> rfl), by repeat (first | (with_reducible first | exact HB.out | apply below_alloc | apply pw_below_drewN | apply below_drew1) | exact HB.out)⟩
      · replace c6 := Bool.eq_false_iff.mpr c6
        subst c6
        have H1 : (if 0 ≤ (wrap64 ((l0.length : Int) - 2)) then (if (wrap64 ((l0.length : Int) - 2)) ≤ (l0.length : Int) then ((rs_Parity.f (l0.take ((wrap64 ((l0.length : Int) - 2)) : Int).toNat)).bind fun bt143 => (if (wrap64 ((l0.length : Int) - 2)) < (l0.length : Int) then ((slices_Equal_byte_byte.f bt143.1 (rd_L1 l0 (wrap64 ((l0.length : Int) - 2)))).bind fun t150 => (if t150 = true then (if 0 ≤ (wrap64 ((wrap64 ((l0.length : Int) - 2)) + 1)) then (if (wrap64 ((wrap64 ((l0.length : Int) - 2)) + 1)) < (l0.length : Int) then ((slices_Equal_byte_byte.f bt143.2 (rd_L1 l0 (wrap64 ((wrap64 ((l0.length : Int) - 2)) + 1)))).bind fun t152 => (some t152)) else (none)) else (none)) else (some false))) else (none))) else (none)) else (none)) = some r := by rw [if_neg (show ¬ (false = true) by decide)] at H; exact H
        clear H
        have H := H1
        clear H1
        obtain ⟨ji7, hji7⟩ : ∃ j_ : Int, (wrap64 ((l0.length : Int) - 2)) = j_ := ⟨_, rfl⟩
        replace H : (if 0 ≤ (ji7) then (if (ji7) ≤ (l0.length : Int) then ((rs_Parity.f (l0.take ((ji7) : Int).toNat)).bind fun bt143 => (if (ji7) < (l0.length : Int) then ((slices_Equal_byte_byte.f bt143.1 (rd_L1 l0 (ji7))).bind fun t150 => (if t150 = true then (if 0 ≤ (wrap64 ((ji7) + 1)) then (if (wrap64 ((ji7) + 1)) < (l0.length : Int) then ((slices_Equal_byte_byte.f bt143.2 (rd_L1 l0 (wrap64 ((ji7) + 1)))).bind fun t152 => (some t152)) else (none)) else (none)) else (some false))) else (none))) else (none)) else (none)) = some r := by first | (rw [hji7] at H; exact H) | (simp only [hji7] at H ⊢; exact H)
        have hji7w : (IntKind.i64.wrap ((l0.length : Int) - 2)) = ji7 := (i64_w _).trans hji7
        by_cases c8 : 0 ≤ (ji7)
        · rw [if_pos c8] at H
          have c8b0 := eq_true c8
          have c8b1 : decide (0 ≤ (ji7)) = true := decide_eq_true c8
          clear c8
          by_cases c9 : (ji7) ≤ (l0.length : Int)
          · rw [if_pos c9] at H
            have c9b0 := eq_true c9
            have c9b1 : decide ((ji7) ≤ (l0.length : Int)) = true := decide_eq_true c9
            clear c9
            obtain ⟨y139, hy139⟩ : ∃ y_ : List (List Int), y_ = (l0.take ((ji7) : Int).toNat) := ⟨_, rfl⟩
            replace H : ((rs_Parity.f y139).bind fun bt143 => (if (ji7) < (l0.length : Int) then ((slices_Equal_byte_byte.f bt143.1 (rd_L1 l0 (ji7))).bind fun t150 => (if t150 = true then (if 0 ≤ (wrap64 ((ji7) + 1)) then (if (wrap64 ((ji7) + 1)) < (l0.length : Int) then ((slices_Equal_byte_byte.f bt143.2 (rd_L1 l0 (wrap64 ((ji7) + 1)))).bind fun t152 => (some t152)) else (none)) else (none)) else (some false))) else (none))) = some r := by first | (rw [hy139]; with_reducible exact H) | (have H2_ := (Option.bind_some _ _).symm.trans H; rw [hy139]; with_reducible exact H2_) | (have H2_ := (Option.bind_some _ _).symm.trans H; with_reducible exact H2_) | with_reducible exact H | (rw [hy139]; exact H) | exact H
            have Ny139 := Aside0.mk hy139
            clear hy139
            replace H := Option.bind_eq_some_iff.mp H
            obtain ⟨⟨t143, t144⟩, A100, H⟩ := H
            replace H : (if (ji7) < (l0.length : Int) then ((slices_Equal_byte_byte.f t143 (rd_L1 l0 (ji7))).bind fun t150 => (if t150 = true then (if 0 ≤ (wrap64 ((ji7) + 1)) then (if (wrap64 ((ji7) + 1)) < (l0.length : Int) then ((slices_Equal_byte_byte.f t144 (rd_L1 l0 (wrap64 ((ji7) + 1)))).bind fun t152 => (some t152)) else (none)) else (none)) else (some false))) else (none)) = some r := H
            have A10 := Aside0.mk A100
            clear A100
            by_cases c11 : (ji7) < (l0.length : Int)
            · rw [if_pos c11] at H
              have c11b0 : decide ((ji7) < (l0.length : Int)) = true := decide_eq_true c11
              clear c11
              replace H := Option.bind_eq_some_iff.mp H
              obtain ⟨t150, A120, H⟩ := H
              replace H : (if t150 = true then (if 0 ≤ (wrap64 ((ji7) + 1)) then (if (wrap64 ((ji7) + 1)) < (l0.length : Int) then ((slices_Equal_byte_byte.f t144 (rd_L1 l0 (wrap64 ((ji7) + 1)))).bind fun t152 => (some t152)) else (none)) else (none)) else (some false)) = some r := H
              have A12 := Aside0.mk A120
              clear A120
              by_cases c13 : t150 = true
              · subst c13
                have H1 : (if 0 ≤ (wrap64 ((ji7) + 1)) then (if (wrap64 ((ji7) + 1)) < (l0.length : Int) then ((slices_Equal_byte_byte.f t144 (rd_L1 l0 (wrap64 ((ji7) + 1)))).bind fun t152 => (some t152)) else (none)) else (none)) = some r := by rw [if_pos rfl] at H; exact H
                clear H
                have H := H1
                clear H1
                obtain ⟨ji14, hji14⟩ : ∃ j_ : Int, (wrap64 ((ji7) + 1)) = j_ := ⟨_, rfl⟩
                replace H : (if 0 ≤ (ji14) then (if (ji14) < (l0.length : Int) then ((slices_Equal_byte_byte.f t144 (rd_L1 l0 (ji14))).bind fun t152 => (some t152)) else (none)) else (none)) = some r := by first | (rw [hji14] at H; exact H) | (simp only [hji14] at H ⊢; exact H)
                (try rw [hji14] at A10)
                (try rw [hji14] at A12)
                have hji14w : (IntKind.i64.wrap ((ji7) + 1)) = ji14 := (i64_w _).trans hji14
                by_cases c15 : 0 ≤ (ji14)
                · rw [if_pos c15] at H
                  have c15b0 : decide (0 ≤ (ji14)) = true := decide_eq_true c15
                  clear c15
                  by_cases c16 : (ji14) < (l0.length : Int)
                  · rw [if_pos c16] at H
                    have c16b0 : decide ((ji14) < (l0.length : Int)) = true := decide_eq_true c16
                    clear c16
                    replace H := Option.bind_eq_some_iff.mp H
                    obtain ⟨t152, A170, H⟩ := H
                    replace H : (some t152) = some r := H
                    have A17 := Aside0.mk A170
                    clear A170
                    obtain rfl := Option.some.inj H
                    have q18 : ((ji7) : Int) ≤ ((l0.length : Int) : Int) := of_decide_eq_true (by first | (with_reducible assumption) | assumption)
                    obtain ⟨i018, hi018, _, hsz18, _⟩ := info_parts info47
                    have hroom18 : l0.length ≤ c0 := HC0.out
                    have hC18 : Kd.C (Kd.slice 5 (Kd.int .u8)) _ A0 l0.length l0 := HR0.out
                    have hcut18 := cut_to (P := Try.prog) 25 47 .i64 Try.underlying25 hi018 A0 l0.length c0 (ji7) (of_decide_eq_true (by first | (with_reducible assumption) | assumption)) q18 hroom18
                    have hr18 := Kd.C_take (m := ((ji7) : Int).toNat) hC18 (by omega)
                    have hy18 : y139.length = ((ji7) : Int).toNat := (by rw [Ny139.out, List.length_take]; omega)
                    rw [← Ny139.out] at hr18
                    rw [← hy18] at hcut18
                    have HR142 := Aside0.mk hr18
                    have HC142 := Aside0.mk (show y139.length ≤ c0 from by omega)
                    clear hr18 hC18 hroom18 hi018 hsz18
                    have KY18 := Aside0.mk hy18
                    clear hy18
                    replace q18 := eq_true q18
                    go_wp2_with (first | ((with_reducible refine gate_callee (f := 30) rfl ?_); refine goesL_ (some 32) rfl rfl Try.func30 (by kernel_rfl) rfl #[.slice A0 y139.length c0] rfl (by (try simp only [List.map_toArray, List.map_cons, List.map_nil]); first | done | rfl | (simp only [List.length_drop, List.length_take]; rfl)) ?_; (with_reducible refine (rs_Parity.calls _ _ y139 t143 t144 _ ?side1 ?side2 A10.out).mono ?_); (case side1 => repeat (first | exact (Kd.C_below HR142.out HB.out) | (with_reducible refine Kd.C_alloc ?_ _) | (with_reducible refine Kd.C_drewN ?_ _) | (with_reducible refine Kd.C_drew ?_))); (case side2 => exact HC142.out); rintro e w19 ⟨v145, v147, rfl, ho0, ho1, hb⟩; refine ⟨_, rfl, ?_⟩; have n0_ := Aside0.mk (Kd.R_lower ho0 (below_size (by repeat (first | (with_reducible first | exact HB.out | apply below_alloc | apply pw_below_drewN | apply below_drew1) | exact HB.out)))); have n1_ := Aside0.mk (Kd.R_lower ho1 (below_size (by repeat (first | (with_reducible first | exact HB.out | apply below_alloc | apply pw_below_drewN | apply below_drew1) | exact HB.out)))); have n2_ := Aside0.mk (below_step (by repeat (first | (with_reducible first | exact HB.out | apply below_alloc | apply pw_below_drewN | apply below_drew1) | exact HB.out)) hb); clear HB; have HO146 := n0_; have HO148 := n1_; have HB := n2_; clear n0_ n1_ n2_; (try clear hb); (try clear hb2); (try clear hk); (try clear hi); (try clear ho0); (try clear ho1); have p149 : 0 ≤ ((ji7) : Int) := of_decide_eq_true (by first | (with_reducible assumption) | assumption); have q149 : (ji7) < (l0.length : Int) := of_decide_eq_true (by first | (with_reducible assumption) | assumption); obtain ⟨ad149, A149_0, c149_0, e149, hx149_0, hl149_0, hi149_0⟩ := at_L1 HR0.out (ji7) p149 q149; cases e149; replace hx149_0 := (HB.out.cell (World.block_lt_of_cell? w _ hx149_0)).trans hx149_0; have HR149_0 := Aside0.mk hi149_0; have HC149_0 := Aside0.mk hl149_0; clear hi149_0 hl149_0; replace p149 := eq_true p149; replace q149 := eq_true q149; obtain ⟨Ao20, co20, eo20⟩ := Kd.R_slice HO146.out; subst eo20) | ((with_reducible refine gate_callee (f := 73) rfl ?_); refine goesL_ (some 40) rfl rfl Try.func73 (by kernel_rfl) rfl #[.slice Ao20 t143.length co20, .slice A149_0 (rd_L1 l0 (ji7)).length c149_0] rfl (by (try simp only [List.map_toArray, List.map_cons, List.map_nil]); first | done | (simp only [hji7]; rfl) | rfl | (simp only [List.length_drop, List.length_take]; rfl)) ?_; (with_reducible refine (slices_Equal_byte_byte.calls _ _ t143 _ _ (rd_L1 l0 (ji7)) true _ ?side1 ?side2 ?side3 ?side4 A12.out).mono ?_); (case side1 => repeat (first | exact (Kd.R_reads' HO146.out).2.2 | (with_reducible refine Kd.C_alloc ?_ _) | (with_reducible refine Kd.C_drewN ?_ _) | (with_reducible refine Kd.C_drew ?_))); (case side2 => exact (Kd.R_reads' HO146.out).2.1); (case side3 => repeat (first | exact (Kd.C_below HR149_0.out HB.out) | (with_reducible refine Kd.C_alloc ?_ _) | (with_reducible refine Kd.C_drewN ?_ _) | (with_reducible refine Kd.C_drew ?_))); (case side4 => exact HC149_0.out); rintro e w' ⟨rfl, ⟨nd, rfl⟩⟩; refine ⟨_, rfl, ?_⟩; have p151 : 0 ≤ ((ji14) : Int) := of_decide_eq_true (by first | (with_reducible assumption) | assumption); have q151 : (ji14) < (l0.length : Int) := of_decide_eq_true (by first | (with_reducible assumption) | assumption); obtain ⟨ad151, A151_0, c151_0, e151, hx151_0, hl151_0, hi151_0⟩ := at_L1 HR0.out (ji14) p151 q151; obtain rfl : ad149 = ad151 := (by injection e151); replace hx151_0 := (HB.out.cell (World.block_lt_of_cell? w _ hx151_0)).trans hx151_0; have HR151_0 := Aside0.mk hi151_0; have HC151_0 := Aside0.mk hl151_0; clear hi151_0 hl151_0; replace p151 := eq_true p151; replace q151 := eq_true q151; obtain ⟨Ao21, co21, eo21⟩ := Kd.R_slice HO148.out; subst eo21) | (go_at_call 73; (with_reducible refine (slices_Equal_byte_byte.calls _ _ t144 _ _ (rd_L1 l0 (ji14)) t152 _ ?side1 ?side2 ?side3 ?side4 A17.out).mono ?_); (case side1 => repeat (first | exact (Kd.R_reads' HO148.out).2.2 | (with_reducible refine Kd.C_alloc ?_ _) | (with_reducible refine Kd.C_drewN ?_ _) | (with_reducible refine Kd.C_drew ?_))); (case side2 => exact (Kd.R_reads' HO148.out).2.1); (case side3 => repeat (first | exact (Kd.C_below HR151_0.out (by repeat (first | (with_reducible first | exact HB.out | apply below_alloc | apply pw_below_drewN | apply below_drew1) | exact HB.out))) | (with_reducible refine Kd.C_alloc ?_ _) | (with_reducible refine Kd.C_drewN ?_ _) | (with_reducible refine Kd.C_drew ?_))); (case side4 => exact HC151_0.out); rintro e w' ⟨rfl, ⟨nd, rfl⟩⟩))
                    go_ret
                    exact ⟨by first | rfl | (simp [errW_none, errW_some] <;> rfl) | (simp only [← hji7, ← hji14]; first | rfl | (simp [errW_none, errW_some] <;> rfl)) | (simp [*, errW_none, errW_some] <;> rfl), by repeat (first | (with_reducible first | exact HB.out | apply below_alloc | apply pw_below_drewN | apply below_drew1) | exact HB.out)⟩
                  · rw [if_neg c16] at H
                    exact absurd H (by simp)
                · rw [if_neg c15] at H
                  exact absurd H (by simp)
              · replace c13 := Bool.eq_false_iff.mpr c13
                subst c13
                have H1 : (some false) = some r := by rw [if_neg (show ¬ (false = true) by decide)] at H; exact H
                clear H
                have H := H1
                clear H1
                obtain rfl := Option.some.inj H
                have q22 : ((ji7) : Int) ≤ ((l0.length : Int) : Int) := of_decide_eq_true (by first | (with_reducible assumption) | assumption)
                obtain ⟨i022, hi022, _, hsz22, _⟩ := info_parts info47
                have hroom22 : l0.length ≤ c0 := HC0.out
                have hC22 : Kd.C (Kd.slice 5 (Kd.int .u8)) _ A0 l0.length l0 := HR0.out
                have hcut22 := cut_to (P := Try.prog) 25 47 .i64 Try.underlying25 hi022 A0 l0.length c0 (ji7) (of_decide_eq_true (by first | (with_reducible assumption) | assumption)) q22 hroom22
                have hr22 := Kd.C_take (m := ((ji7) : Int).toNat) hC22 (by omega)
                have hy22 : y139.length = ((ji7) : Int).toNat := (by rw [Ny139.out, List.length_take]; omega)
                rw [← Ny139.out] at hr22
                rw [← hy22] at hcut22
                have HR142 := Aside0.mk hr22
                have HC142 := Aside0.mk (show y139.length ≤ c0 from by omega)
                clear hr22 hC22 hroom22 hi022 hsz22
                have KY22 := Aside0.mk hy22
                clear hy22
                replace q22 := eq_true q22
                go_wp2_with (first | ((with_reducible refine gate_callee (f := 30) rfl ?_); refine goesL_ (some 32) rfl rfl Try.func30 (by kernel_rfl) rfl #[.slice A0 y139.length c0] rfl (by (try simp only [List.map_toArray, List.map_cons, List.map_nil]); first | done | rfl | (simp only [List.length_drop, List.length_take]; rfl)) ?_; (with_reducible refine (rs_Parity.calls _ _ y139 t143 t144 _ ?side1 ?side2 A10.out).mono ?_); (case side1 => repeat (first | exact (Kd.C_below HR142.out HB.out) | (with_reducible refine Kd.C_alloc ?_ _) | (with_reducible refine Kd.C_drewN ?_ _) | (with_reducible refine Kd.C_drew ?_))); (case side2 => exact HC142.out); rintro e w23 ⟨v145, v147, rfl, ho0, ho1, hb⟩; refine ⟨_, rfl, ?_⟩; have n0_ := Aside0.mk (Kd.R_lower ho0 (below_size (by repeat (first | (with_reducible first | exact HB.out | apply below_alloc | apply pw_below_drewN | apply below_drew1) | exact HB.out)))); have n1_ := Aside0.mk (Kd.R_lower ho1 (below_size (by repeat (first | (with_reducible first | exact HB.out | apply below_alloc | apply pw_below_drewN | apply below_drew1) | exact HB.out)))); have n2_ := Aside0.mk (below_step (by repeat (first | (with_reducible first | exact HB.out | apply below_alloc | apply pw_below_drewN | apply below_drew1) | exact HB.out)) hb); clear HB; have HO146 := n0_; have HO148 := n1_; have HB := n2_; clear n0_ n1_ n2_; (try clear hb); (try clear hb2); (try clear hk); (try clear hi); (try clear ho0); (try clear ho1); have p149 : 0 ≤ ((ji7) : Int) := of_decide_eq_true (by first | (with_reducible assumption) | assumption); have q149 : (ji7) < (l0.length : Int) := of_decide_eq_true (by first | (with_reducible assumption) | assumption); obtain ⟨ad149, A149_0, c149_0, e149, hx149_0, hl149_0, hi149_0⟩ := at_L1 HR0.out (ji7) p149 q149; cases e149; replace hx149_0 := (HB.out.cell (World.block_lt_of_cell? w _ hx149_0)).trans hx149_0; have HR149_0 := Aside0.mk hi149_0; have HC149_0 := Aside0.mk hl149_0; clear hi149_0 hl149_0; replace p149 := eq_true p149; replace q149 := eq_true q149; obtain ⟨Ao24, co24, eo24⟩ := Kd.R_slice HO146.out; subst eo24) | ((with_reducible refine gate_callee (f := 73) rfl ?_); refine goesL_ (some 40) rfl rfl Try.func73 (by kernel_rfl) rfl #[.slice Ao24 t143.length co24, .slice A149_0 (rd_L1 l0 (ji7)).length c149_0] rfl (by (try simp only [List.map_toArray, List.map_cons, List.map_nil]); first | done | (simp only [hji7]; rfl) | rfl | (simp only [List.length_drop, List.length_take]; rfl)) ?_; (with_reducible refine (slices_Equal_byte_byte.calls _ _ t143 _ _ (rd_L1 l0 (ji7)) false _ ?side1 ?side2 ?side3 ?side4 A12.out).mono ?_); (case side1 => repeat (first | exact (Kd.R_reads' HO146.out).2.2 | (with_reducible refine Kd.C_alloc ?_ _) | (with_reducible refine Kd.C_drewN ?_ _) | (with_reducible refine Kd.C_drew ?_))); (case side2 => exact (Kd.R_reads' HO146.out).2.1); (case side3 => repeat (first | exact (Kd.C_below HR149_0.out HB.out) | (with_reducible refine Kd.C_alloc ?_ _) | (with_reducible refine Kd.C_drewN ?_ _) | (with_reducible refine Kd.C_drew ?_))); (case side4 => exact HC149_0.out); rintro e w' ⟨rfl, ⟨nd, rfl⟩⟩; refine ⟨_, rfl, ?_⟩))
                go_ret
                exact ⟨by first | rfl | (simp [errW_none, errW_some] <;> rfl) | (simp only [← hji7]; first | rfl | (simp [errW_none, errW_some] <;> rfl)) | (simp [*, errW_none, errW_some] <;> rfl), by repeat (first | (with_reducible first | exact HB.out | apply below_alloc | apply pw_below_drewN | apply below_drew1) | exact HB.out)⟩
            · rw [if_neg c11] at H
              exact absurd H (by simp)
          · rw [if_neg c9] at H
            exact absurd H (by simp)
        · rw [if_neg c8] at H
          exact absurd H (by simp)
end Go.Proofs.Ytibileffpgnjhaa.PRr
namespace Go.Proofs.Ytibileffpgnjhaa.Co
open Go.RowKit Go.Proofs.YtibileffpgnjhaaW.PrintWords
open Go.Proofs.Ytibileffpgnjhaa.PRq Go.Proofs.Ytibileffpgnjhaa.Fld Go.Proofs.Ytibileffpgnjhaa.Pl Go.Proofs.Ytibileffpgnjhaa.Ot Go.Proofs.Ytibileffpgnjhaa.Tw Go.Proofs.Ytibileffpgnjhaa.Kp Go.Proofs.Ytibileffpgnjhaa.Fw
set_option linter.unusedSimpArgs false
set_option linter.unusedVariables false
theorem equal_l0 (a b : List Int) (h : a.length = b.length) (hm : a.length ≤ 1000000) : ∀ d i, a.length - i = d → i ≤ a.length → Ev (fun k => slices_Equal_byte_byte.l0 k a b (a.length : Int) (i : Int)) (decide (a.drop i = b.drop i))
  | 0, i, hd, hi => by
    obtain rfl : i = a.length := by omega
    refine Ev.step (f := fun _ => some true) (fun k => ?_) ?_
    · rw [slices_Equal_byte_byte.l0, if_neg (by omega)]
    · rw [List.drop_length, h, List.drop_length]
      exact Ev.now _
  | d + 1, i, hd, hi => by
    have hia : i < a.length := by omega
    have hib : i < b.length := by omega
    have ea : a.drop i = a[i] :: a.drop (i + 1) := List.drop_eq_getElem_cons hia
    have eb : b.drop i = b[i] :: b.drop (i + 1) := List.drop_eq_getElem_cons hib
    by_cases hq : a[i] = b[i]
    · refine Ev.step (f := fun k => slices_Equal_byte_byte.l0 k a b (a.length : Int) ((i + 1 : Nat) : Int)) (fun k => ?_) ?_
      · rw [slices_Equal_byte_byte.l0, if_pos (by omega), if_pos (by omega), if_pos (by omega), if_pos (by omega), rd_nat, rd_nat, at_lt hia, at_lt hib, if_pos hq, w64 (by omega) (by omega)]; rfl
      · have := equal_l0 a b h hm d (i + 1) (by omega) (by omega)
        have e : decide (a.drop i = b.drop i) = decide (a.drop (i + 1) = b.drop (i + 1)) := by
          rw [decide_eq_decide, ea, eb, hq]
          exact ⟨fun h => (List.cons.inj h).2, fun h => by rw [h]⟩
        rw [e]
        exact this
    · refine Ev.step (f := fun _ => some false) (fun k => ?_) ?_
      · rw [slices_Equal_byte_byte.l0, if_pos (by omega), if_pos (by omega), if_pos (by omega), if_pos (by omega), rd_nat, rd_nat, at_lt hia, at_lt hib, if_neg hq]
      · have e : decide (a.drop i = b.drop i) = false := by
          rw [decide_eq_false_iff_not, ea, eb]
          exact fun h => hq (List.cons.inj h).1
        rw [e]
        exact Ev.now _
theorem equal_ev (a b : List Int) (hm : a.length ≤ 1000000) : Ev (fun k => slices_Equal_byte_byte.f k a b) (decide (a = b)) := by
  by_cases h : a.length = b.length
  · have := equal_l0 a b h hm a.length 0 (by omega) (by omega)
    simp only [List.drop_zero] at this
    refine Ev.congr (fun k => ?_) this
    rw [slices_Equal_byte_byte.f, if_pos (by omega)]
    rfl
  · refine Ev.congr (f := fun _ => some false) (fun k => ?_) ?_
    · rw [slices_Equal_byte_byte.f, if_neg (by omega)]
    · have e : decide (a = b) = false := by
        rw [decide_eq_false_iff_not]; intro h2; exact h (by rw [h2])
      rw [e]; exact Ev.now _
theorem equal_r (a b : List Int) (hm : a.length ≤ 1000000) : PRr.slices_Equal_byte_byte.f a b = some (decide (a = b)) := Lim.lim_ev (fun k => PRq.slices_Equal_byte_byte.mono _ _ k) (equal_ev a b hm)
theorem parity_r (L : List (List Int)) (n : Nat) (hn : ∀ r ∈ L, r.length = n) (hL : ∀ r ∈ L, Bytes r) (h2 : 2 ≤ L.length) (h14 : L.length ≤ 14) (hn2 : n ≤ 281474976710656) : PRr.rs_Parity.f L = some (sumP L n, sumQ L n) :=
  Lim.lim_ev (fun k => PRq.rs_Parity.mono _ k) (parity_ev L n hn hL h2 h14 hn2)
theorem alike_l0 : ∀ (k : Nat) (n : Int) (L : List (List Int)) (m i : Int), PRr.rs_alike.l0 k n L m i = PRq.rs_alike.l0 k n L m i
  | 0, _, _, _, _ => rfl
  | k + 1, n, L, m, i => by
    have ih := alike_l0 k
    simp only [PRr.rs_alike.l0, PRq.rs_alike.l0, ih]
    rfl
theorem alike_f (k : Nat) (L : List (List Int)) : PRr.rs_alike.f k L = PRq.rs_alike.f k L := alike_l0 k 0 L _ 0
theorem check_ev (L : List (List Int)) (n d : Nat) (hL : GoodR n L) (hd : L.length = d + 2) (h4 : 4 ≤ L.length) (h16 : L.length ≤ 16) (hn : n ≤ 1000000) : Ev (fun k => PRr.rs_Check.f k L) (decide (sumP (L.take d) n = row L d) && decide (sumQ (L.take d) n = row L (d + 1))) := by
  have ha := alike_ev L (by omega)
  rw [if_pos (alikeR_of (fun r h => (hL r h).1))] at ha
  have hr : Ev (fun k => PRr.rs_alike.f k L) ((lenR L : Nat), true) := Ev.congr (fun k => alike_f k L) ha
  refine Ev.bind hr ?_
  refine Ev.congr (f := fun k => PRr.rs_Check.j0 k L false) (fun k => ?_) ?_
  · rw [if_pos rfl, if_neg (by omega), decide_eq_false (by omega)]
  · refine Ev.step (f := fun _ => some (decide (sumP (L.take d) n = row L d) && decide (sumQ (L.take d) n = row L (d + 1)))) (fun k => ?_) (Ev.now _)
    have e1 : wrap64 ((L.length : Int) - 2) = (d : Int) := by rw [w64 (by omega) (by omega)]; omega
    have e2 : wrap64 ((d : Int) + 1) = ((d + 1 : Nat) : Int) := by rw [w64 (by omega) (by omega)]; rfl
    have hp := parity_r (L.take d) n (fun r h => (good_take hL r h).1) (fun r h => (good_take hL r h).2) (by rw [List.length_take]; omega) (by rw [List.length_take]; omega) (by omega)
    have r1 : ∀ j : Nat, PRr.rd_L1 L (j : Int) = row L j := fun j => by unfold PRr.rd_L1 row; simp
    rw [PRr.rs_Check.j0, if_neg (by simp), e1, if_pos (by omega), if_pos (by omega), Int.toNat_natCast, hp]
    simp only [Option.bind_some]
    rw [if_pos (by omega), r1, equal_r _ _ (by rw [sumP_len]; exact hn)]
    simp only [Option.bind_some]
    by_cases hq : sumP (L.take d) n = row L d
    · rw [decide_eq_true hq, if_pos rfl, e2, if_pos (by omega), if_pos (by omega), r1, equal_r _ _ (by rw [sumQ_len]; exact hn)]
      rfl
    · rw [decide_eq_false hq, if_neg (by simp)]
      rfl
theorem ownR_nil (L : List (List Int)) (n : Nat) : ownR L [] n = L := by
  apply List.ext_getElem (by simp [ownR])
  intro i h1 h2
  simp [ownR]
theorem fixR_nil (L : List (List Int)) : fixR L [] = L := by
  unfold fixR
  simp [srt, dataR, parR, ownR_nil]
theorem fixF_of {L : List (List Int)} {lost : List Int} (hb : ∀ r ∈ L, Bytes r) (hl : ∀ r ∈ L, r.length ≤ 1000000) (h1 : lost.length ≤ 1000000) (h2 : L.length ≤ 1000000) : fixF L lost = if mayB L lost then some (fixR L lost, true) else some ([], false) := by
  unfold fixF
  rw [if_pos ⟨hb, hl, h1, h2⟩]
end Go.Proofs.Ytibileffpgnjhaa.Co
namespace Go.Proofs.Ytibileffpgnjhaa.Cw
open Go.RowKit Go.Proofs.YtibileffpgnjhaaW.PrintWords
open Go.Proofs.Ytibileffpgnjhaa.PRq Go.Proofs.Ytibileffpgnjhaa.Fld Go.Proofs.Ytibileffpgnjhaa.Pl Go.Proofs.Ytibileffpgnjhaa.Ot Go.Proofs.Ytibileffpgnjhaa.Tw Go.Proofs.Ytibileffpgnjhaa.Kp Go.Proofs.Ytibileffpgnjhaa.Fw Go.Proofs.Ytibileffpgnjhaa.Co
open Go.Proofs.Ytibileffpgnjhaa.Base (mulN)
set_option linter.unusedSimpArgs false
set_option linter.unusedVariables false
theorem parR_len : ∀ (gone : List Nat) (out : List (List Int)) (d n : Nat), (parR out gone d n).length = out.length
  | [], _, _, _ => rfl
  | i :: t, out, d, n => by
    show (parR (if i ≥ d then out.set i _ else out) t d n).length = _
    rw [parR_len t]
    split <;> simp
theorem parR_row : ∀ (gone : List Nat) (out : List (List Int)) (d n j : Nat), j ∉ gone → row (parR out gone d n) j = row out j
  | [], _, _, _, _, _ => rfl
  | i :: t, out, d, n, j, h => by
    rw [List.mem_cons, not_or] at h
    show row (parR (if i ≥ d then out.set i _ else out) t d n) j = _
    rw [parR_row t _ d n j h.2]
    split
    · exact Tw.row_set_ne (Ne.symm h.1) _
    · rfl
theorem dataR_len (out : List (List Int)) (gone : List Nat) (d : Nat) (p q : List Int) : (dataR out gone d p q).length = out.length := by
  unfold dataR
  split
  · rfl
  · split <;> simp
  · split
    · rfl
    · split
      · exact two_len _ _ _ _ _
      · split <;> simp
theorem dataR_row (out : List (List Int)) (gone : List Nat) (d j : Nat) (p q : List Int) (h : j ∉ gone) : row (dataR out gone d p q) j = row out j := by
  unfold dataR
  split
  · rfl
  · simp only [List.mem_singleton] at h
    split
    · rfl
    · exact Tw.row_set_ne (Ne.symm h) _
  · rename_i a b t
    simp only [List.mem_cons, not_or] at h
    split
    · rfl
    · split
      · unfold twoR
        rw [Tw.row_set_ne (Ne.symm h.2.1), Tw.row_set_ne (Ne.symm h.1)]
      · split
        · exact Tw.row_set_ne (Ne.symm h.1) _
        · exact Tw.row_set_ne (Ne.symm h.1) _
theorem srt_mem {lost : List Int} {x : Int} (h2 : lost.length ≤ 2) : x ∈ srt lost ↔ x ∈ lost := by
  match lost, h2 with
  | [], _ => rfl
  | [a], _ => rfl
  | [a, b], _ =>
    unfold srt
    by_cases h : a ≤ b
    · simp [h]
    · simp [h, or_comm]
theorem row_ext {A B : List (List Int)} (h1 : A.length = B.length) (h : ∀ i, i < A.length → row A i = row B i) : A = B := by
  apply List.ext_getElem h1
  intro i h2 h3
  rw [← row_lt h2, ← row_lt h3, h i h2]
theorem ownR_row (L : List (List Int)) (lost : List Int) (n i : Nat) (hi : i < L.length) : row (ownR L lost n) i = if lost.contains (i : Int) then List.replicate n 0 else row L i := by
  rw [row_lt (by rw [own_len]; exact hi), row_lt hi]
  simp only [ownR, List.getElem_mapIdx]
theorem fixR_len (L : List (List Int)) (lost : List Int) : (fixR L lost).length = L.length := by
  unfold fixR
  simp only
  rw [parR_len, dataR_len, own_len]
theorem fixR_row (L : List (List Int)) (lost : List Int) (h2 : lost.length ≤ 2) (i : Nat) (hi : i < L.length) (hc : lost.contains (i : Int) = false) (h0 : ∀ x ∈ lost, 0 ≤ x) : row (fixR L lost) i = row L i := by
  have hn : i ∉ (srt lost).map Int.toNat := by
    intro h
    obtain ⟨x, hx, e⟩ := List.mem_map.1 h
    rw [srt_mem h2] at hx
    have h1 := h0 x hx
    have e2 : x = (i : Int) := by omega
    rw [e2] at hx
    have : lost.contains (i : Int) = true := by simpa using hx
    rw [this] at hc
    cases hc
  unfold fixR
  simp only
  rw [parR_row _ _ _ _ _ hn, dataR_row _ _ _ _ _ _ hn, ownR_row _ _ _ _ hi, hc]
  simp
theorem again (L : List (List Int)) (lost : List Int) (h2 : lost.length ≤ 2) (h0 : ∀ x ∈ lost, 0 ≤ x) : kept (fixR L lost) lost = kept L lost ∧ (∀ n, ownR (fixR L lost) lost n = ownR L lost n) ∧ fixR (fixR L lost) lost = fixR L lost ∧ mayB (fixR L lost) lost = mayB L lost := by
  have hl := fixR_len L lost
  have hr : ∀ i, i < L.length → lost.contains (i : Int) = false → row (fixR L lost) i = row L i := fun i hi hc => fixR_row L lost h2 i hi hc h0
  have hk : kept (fixR L lost) lost = kept L lost := by
    rw [kept_idx, kept_idx, hl]
    apply List.map_congr_left
    intro i hi
    have h3 := idx_lt hi
    unfold idx at hi
    rw [List.mem_filter] at hi
    exact hr i h3 (by simpa using hi.2)
  have ho : ∀ n, ownR (fixR L lost) lost n = ownR L lost n := fun n => by
    refine row_ext (by rw [own_len, own_len, hl]) (fun i hi => ?_)
    rw [own_len, hl] at hi
    rw [ownR_row _ _ _ _ (by rw [hl]; exact hi), ownR_row _ _ _ _ hi]
    split
    · rfl
    · rename_i hc
      exact hr i hi (Bool.eq_false_iff.2 hc)
  refine ⟨hk, ho, ?_, ?_⟩
  · generalize hX : fixR L lost = X at hk ho hl
    unfold fixR
    simp only
    rw [hk, ho, hl]
    rw [← hX]
    unfold fixR
    rfl
  · unfold mayB
    rw [hk, hl]
theorem xorI_cancel (u p v : Int) : xorI (xorI u p) (xorI u v) = xorI v p := by
  unfold xorI
  simp only [Int.toNat_natCast]
  congr 1
  rw [Nat.xor_comm u.toNat p.toNat, Nat.xor_assoc, ← Nat.xor_assoc u.toNat, Nat.xor_self, Nat.zero_xor, Nat.xor_comm]
theorem pS_set : ∀ (L : List (List Int)) (a : Nat) (r : List Int) (k : Nat), a < L.length → pS (L.set a r) k = xorI (pS L k) (xorI (at_ (row L a) k) (at_ r k))
  | r0 :: L, 0, r, k, _ => by
    simp only [List.set_cons_zero, pS]
    have e : row (r0 :: L) 0 = r0 := rfl
    rw [e, xorI_cancel]
  | r0 :: L, a + 1, r, k, h => by
    simp only [List.set_cons_succ, pS]
    have e : row (r0 :: L) (a + 1) = row L a := rfl
    rw [e, pS_set L a r k (by simpa using h), xorI_assoc]
theorem qS_set : ∀ (L : List (List Int)) (s a : Nat) (r : List Int) (k : Nat), a < L.length → (∀ x ∈ L, Bytes x) → Bytes r → qS s (L.set a r) k = xorI (qS s L k) (mulI (expI (s + a)) (xorI (at_ (row L a) k) (at_ r k)))
  | r0 :: L, s, 0, r, k, _, hL, hr => by
    simp only [List.set_cons_zero, qS]
    have e : row (r0 :: L) 0 = r0 := rfl
    rw [e, mulI_xor (byt_at (hL r0 (by simp)) k) (byt_at hr k), show s + 0 = s from rfl, xorI_cancel]
  | r0 :: L, s, a + 1, r, k, h, hL, hr => by
    simp only [List.set_cons_succ, qS]
    have e : row (r0 :: L) (a + 1) = row L a := rfl
    have e2 : s + 1 + a = s + (a + 1) := by omega
    rw [e, qS_set L (s + 1) a r k (by simpa using h) (fun x hx => hL x (by simp [hx])) hr, xorI_assoc, e2]
theorem addR_at (t x : List Int) (b : Int) (k : Nat) (h1 : k < t.length) (h2 : k < x.length) : at_ (addR t x b) k = xorI (at_ t k) (mulI (at_ x k) b) := by
  rw [at_lt (by rw [addR_len]; exact h1), at_lt h1]
  simp [addR, h2]
theorem mulI_inv {x : Int} (hx : Byt x) (h0 : x ≠ 0) : mulI x (invI x) = 1 := by
  obtain ⟨a, rfl⟩ := Int.eq_ofNat_of_zero_le hx.1
  unfold mulI invI
  have h2 := hx.2
  have := mul_inv (a := a) (by omega) (by intro h; exact h0 (by rw [h]; rfl))
  simp only [Int.ofNat_eq_natCast, Int.toNat_natCast] at *
  rw [this]; rfl
theorem xorI_self_left {x : Int} (y : Int) (h : Byt y) : xorI x (xorI x y) = y := by
  rw [← xorI_assoc, xorI_self, zero_xorI h]
theorem mul_cancel {x y : Int} (hx : Byt x) (hy : Byt y) (h0 : x ≠ 0) : mulI x (mulI y (invI x)) = y := by
  rw [mulI_comm hy (byt_inv hx), ← mulI_assoc hx (byt_inv hx) hy, mulI_inv hx h0, mulI_comm ⟨by omega, by omega⟩ hy, mulI_one hy]
theorem solve_q {x Q w : Int} (hx : Byt x) (h0 : x ≠ 0) (hQ : Byt Q) (hw : Byt w) : xorI Q (mulI x (xorI 0 (xorI 0 (mulI (xorI Q (mulI w 1)) (invI x))))) = w := by
  rw [mulI_one hw, zero_xorI (byt_mul (byt_inv hx)), zero_xorI (byt_mul (byt_inv hx)), mul_cancel hx (byt_xor hQ hw) h0, xorI_self_left _ hw]
theorem solve_p {P v : Int} (hP : Byt P) (hv : Byt v) : xorI P (xorI 0 (xorI 0 (mulI (xorI P (mulI v 1)) 1))) = v := by
  have h1 : Byt 1 := ⟨by omega, by omega⟩
  rw [mulI_one hv, mulI_one (byt_xor hP hv), zero_xorI (byt_xor hP hv), zero_xorI (byt_xor hP hv), xorI_self_left _ hv]
theorem two_p {P p r : Int} (hP : Byt P) (hp : Byt p) (hr : Byt r) : xorI (xorI P (xorI 0 r)) (xorI 0 (xorI (xorI 0 (mulI p 1)) (mulI r 1))) = xorI P p := by
  rw [mulI_one hp, mulI_one hr, zero_xorI hr, zero_xorI hp, zero_xorI (byt_xor hp hr), xorI_comm p r, xorI_assoc, xorI_self_left _ hp]
theorem two_q {x y Q q p : Int} (hx : Byt x) (hy : Byt y) (h0 : xorI x y ≠ 0) (hQ : Byt Q) (hq : Byt q) (hp : Byt p) {r : Int} (hr : r = xorI (xorI 0 (mulI q (invI (xorI x y)))) (mulI p (mulI (invI (xorI x y)) y))) :
    xorI (xorI Q (mulI x (xorI 0 r))) (mulI y (xorI 0 (xorI (xorI 0 (mulI p 1)) (mulI r 1)))) = xorI Q q := by
  have hz := byt_xor hx hy
  have hE := byt_inv hz
  have br : Byt r := by rw [hr]; exact byt_xor (byt_xor byt_zero (byt_mul hE)) (byt_mul (byt_mul hy))
  have e1 : mulI (xorI x y) r = xorI q (mulI y p) := by
    rw [hr, zero_xorI (byt_mul hE), mulI_xor (byt_mul hE) (byt_mul (byt_mul hy)), mul_cancel hz hq h0, mulI_comm hE hy, ← mulI_assoc hp hy hE, mul_cancel hz (byt_mul hy) h0, mulI_comm hp hy]
  have e2 : mulI (xorI x y) r = xorI (mulI x r) (mulI y r) := by
    rw [mulI_comm hz br, mulI_xor hx hy, mulI_comm br hx, mulI_comm br hy]
  rw [mulI_one hp, mulI_one br, zero_xorI br, zero_xorI hp, zero_xorI (byt_xor hp br), mulI_xor hp br, xorI_swap, ← e2, e1, xorI_comm Q (mulI y p), xorI_comm q (mulI y p), xorI_cancel, xorI_comm]
theorem take_set_lt {L : List (List Int)} (i d : Nat) (r : List Int) : (L.set i r).take d = (L.take d).set i r := by
  apply List.ext_getElem (by simp)
  intro j h1 h2
  have hj : j < (L.take d).length := by simpa using h2
  rw [List.getElem_take, List.getElem_set, List.getElem_set]
  split
  · rfl
  · rw [List.getElem_take]
theorem take_set_ge {L : List (List Int)} {i d : Nat} (h : d ≤ i) (r : List Int) : (L.set i r).take d = L.take d := by
  rw [take_set_lt, List.set_eq_of_length_le (by rw [List.length_take]; omega)]
theorem row_take {L : List (List Int)} {i d : Nat} (h : i < d) : row (L.take d) i = row L i := by unfold row; simp [List.getElem?_take, h]
theorem at_zero (n k : Nat) : at_ (List.replicate n 0) k = 0 := by
  unfold at_
  rw [List.getD_eq_getElem?_getD, List.getElem?_replicate]
  split <;> rfl
/-- with two rows lost the parities come out right -/
theorem code_two {R : List (List Int)} {n d a b : Nat} (hR : GoodR n R) (hl : R.length = d + 2) (hab : a < b) (hb : b < d + 2) (h16 : R.length ≤ 16) (za : row R a = List.replicate n 0) (zb : row R b = List.replicate n 0) {X : List (List Int)}
    (hX : X = parR (dataR R [a, b] d (addR (sumP (R.take d) n) (row R d) 1) (addR (sumQ (R.take d) n) (row R (d + 1)) 1)) [a, b] d n) : sumP (X.take d) n = row X d ∧ sumQ (X.take d) n = row X (d + 1) := by
  have gT := good_take (m := d) hR
  have bT : ∀ x ∈ R.take d, Bytes x := fun x hx => (gT x hx).2
  have lT : (R.take d).length = d := by rw [List.length_take]; omega
  obtain ⟨gd1, gd2⟩ := Tw.good_row hR (i := d) (by omega)
  obtain ⟨ge1, ge2⟩ := Tw.good_row hR (i := d + 1) (by omega)
  have hpS : ∀ k, Byt (pS (R.take d) k) := fun k => byt_pS _ k bT
  have hqS : ∀ k, Byt (qS 0 (R.take d) k) := fun k => byt_qS 0 _ k bT
  have pk : ∀ k, k < n → at_ (addR (sumP (R.take d) n) (row R d) 1) k = xorI (pS (R.take d) k) (mulI (at_ (row R d) k) 1) := fun k hk => by
    rw [addR_at _ _ _ _ (by rw [sumP_len]; exact hk) (by rw [gd1]; exact hk), sumP_at _ hk]
  have qk : ∀ k, k < n → at_ (addR (sumQ (R.take d) n) (row R (d + 1)) 1) k = xorI (qS 0 (R.take d) k) (mulI (at_ (row R (d + 1)) k) 1) := fun k hk => by
    rw [addR_at _ _ _ _ (by rw [sumQ_len]; exact hk) (by rw [ge1]; exact hk), sumQ_at _ hk]
  have hpl : (addR (sumP (R.take d) n) (row R d) 1).length = n := by rw [addR_len, sumP_len]
  have hql : (addR (sumQ (R.take d) n) (row R (d + 1)) 1).length = n := by rw [addR_len, sumQ_len]
  have b1 : Byt 1 := ⟨by omega, by omega⟩
  have bp : Bytes (addR (sumP (R.take d) n) (row R d) 1) := bytes_addR (bytes_sumP _ _ bT) gd2 b1
  have bq : Bytes (addR (sumQ (R.take d) n) (row R (d + 1)) 1) := bytes_addR (bytes_sumQ _ _ bT) ge2 b1
  obtain ⟨p, hp⟩ : ∃ p, p = addR (sumP (R.take d) n) (row R d) 1 := ⟨_, rfl⟩
  obtain ⟨q, hq⟩ : ∃ q, q = addR (sumQ (R.take d) n) (row R (d + 1)) 1 := ⟨_, rfl⟩
  rw [← hp] at pk hpl bp hX
  rw [← hq] at qk hql bq hX
  have ex : ∀ i, expI i ≠ 0 := fun i h => pw_ne_zero i (by unfold expI at h; omega)
  by_cases had : d ≤ a
  · obtain rfl : a = d := by omega
    obtain rfl : b = a + 1 := by omega
    have hX2 : X = (R.set a (sumP (R.take a) n)).set (a + 1) (sumQ (R.take a) n) := by
      rw [hX]
      simp [dataR, parR, take_set_ge (Nat.le_refl a)]
    have ht : X.take a = R.take a := by rw [hX2, take_set_ge (by omega), take_set_ge (Nat.le_refl a)]
    rw [ht, hX2]
    refine ⟨?_, ?_⟩
    · rw [Tw.row_set_ne (by omega), Tw.row_set_self (by omega)]
    · rw [Tw.row_set_self (by rw [List.length_set]; omega)]
  · have haT : a < (R.take d).length := by omega
    have raT : row (R.take d) a = List.replicate n 0 := by rw [row_take (by omega)]; exact za
    have raL : (row R a).length = n := by rw [za]; simp
    have raB : Bytes (row R a) := by rw [za]; intro x hx; rw [List.mem_replicate] at hx; rw [hx.2]; exact byt_zero
    by_cases hbd : b < d
    · have hX2 : X = twoR R a b p q := by
        rw [hX]
        simp [dataR, parR, had, hbd, show ¬ d ≤ b from by omega]
      obtain ⟨ra, hra⟩ : ∃ ra, ra = addR (addR (row R a) q (invI (xorI (expI a) (expI b)))) p (mulI (invI (xorI (expI a) (expI b))) (expI b)) := ⟨_, rfl⟩
      obtain ⟨rb, hrb⟩ : ∃ rb, rb = addR (addR (row R b) p 1) ra 1 := ⟨_, rfl⟩
      have hX3 : X = (R.set a ra).set b rb := by rw [hX2, hrb, hra]; rfl
      have bE := byt_inv (byt_xor (byt_exp a) (byt_exp b))
      have rbL : (row R b).length = n := by rw [zb]; simp
      have rbB : Bytes (row R b) := by rw [zb]; intro x hx; rw [List.mem_replicate] at hx; rw [hx.2]; exact byt_zero
      have bra : Bytes ra := by rw [hra]; exact bytes_addR (bytes_addR raB bq bE) bp (byt_mul (byt_exp b))
      have lra : ra.length = n := by rw [hra, addR_len, addR_len, raL]
      have brb : Bytes rb := by rw [hrb]; exact bytes_addR (bytes_addR rbB bp b1) bra b1
      have rk : ∀ k, k < n → at_ ra k = xorI (xorI 0 (mulI (at_ q k) (invI (xorI (expI a) (expI b))))) (mulI (at_ p k) (mulI (invI (xorI (expI a) (expI b))) (expI b))) := fun k hk => by
        rw [hra, addR_at _ _ _ _ (by rw [addR_len, raL]; exact hk) (by rw [hpl]; exact hk), addR_at _ _ _ _ (by rw [raL]; exact hk) (by rw [hql]; exact hk), za, at_zero]
      have sk : ∀ k, k < n → at_ rb k = xorI (xorI 0 (mulI (at_ p k) 1)) (mulI (at_ ra k) 1) := fun k hk => by
        rw [hrb, addR_at _ _ _ _ (by rw [addR_len, rbL]; exact hk) (by rw [lra]; exact hk), addR_at _ _ _ _ (by rw [rbL]; exact hk) (by rw [hpl]; exact hk), zb, at_zero]
      have ht : X.take d = ((R.take d).set a ra).set b rb := by rw [hX3, take_set_lt, take_set_lt]
      have hbT : b < ((R.take d).set a ra).length := by rw [List.length_set]; omega
      have rbT : row ((R.take d).set a ra) b = List.replicate n 0 := by rw [Tw.row_set_ne (by omega), row_take hbd]; exact zb
      have bS : ∀ x ∈ (R.take d).set a ra, Bytes x := by
        intro x hx
        rcases List.mem_or_eq_of_mem_set hx with hx | rfl
        · exact bT x hx
        · exact bra
      have hrd : ∀ j, d ≤ j → row X j = row R j := fun j hj => by rw [hX3, Tw.row_set_ne (by omega), Tw.row_set_ne (by omega)]
      refine ⟨?_, ?_⟩
      · rw [ht, hrd d (Nat.le_refl d)]
        refine ext_at (by rw [sumP_len, gd1]) (fun k hk => ?_)
        rw [sumP_len] at hk
        rw [sumP_at _ hk, pS_set _ b rb k hbT, rbT, at_zero, pS_set _ a ra k haT, raT, at_zero, sk k hk, two_p (hpS k) (byt_at bp k) (byt_at bra k), pk k hk, mulI_one (byt_at gd2 k), xorI_self_left _ (byt_at gd2 k)]
      · rw [ht, hrd (d + 1) (by omega)]
        refine ext_at (by rw [sumQ_len, ge1]) (fun k hk => ?_)
        rw [sumQ_len] at hk
        rw [sumQ_at _ hk, qS_set _ 0 b rb k hbT bS brb, rbT, at_zero, qS_set _ 0 a ra k haT bT bra, raT, at_zero, sk k hk, Nat.zero_add, Nat.zero_add,
          two_q (byt_exp a) (byt_exp b) (Tw.xor_ne (by omega) (by omega) (by omega)) (hqS k) (byt_at bq k) (byt_at bp k) (rk k hk), qk k hk, mulI_one (byt_at ge2 k), xorI_self_left _ (byt_at ge2 k)]
    · by_cases hbe : b = d
      · obtain ⟨ra, hra⟩ : ∃ ra, ra = addR (row R a) q (invI (expI a)) := ⟨_, rfl⟩
        have hX2 : X = (R.set a ra).set d (sumP ((R.set a ra).take d) n) := by
          rw [hX, hra]
          simp [dataR, parR, had, hbe]
        have ht : X.take d = (R.take d).set a ra := by rw [hX2, take_set_ge (Nat.le_refl d), take_set_lt]
        have bra : Bytes ra := by rw [hra]; exact bytes_addR raB bq (byt_inv (byt_exp a))
        refine ⟨?_, ?_⟩
        · rw [ht, hX2, Tw.row_set_self (by rw [List.length_set]; omega), take_set_lt]
        · rw [ht, hX2, Tw.row_set_ne (by omega), Tw.row_set_ne (by omega)]
          refine ext_at (by rw [sumQ_len, ge1]) (fun k hk => ?_)
          rw [sumQ_len] at hk
          rw [sumQ_at _ hk, qS_set _ 0 a ra k haT bT bra, raT, at_zero, hra, addR_at _ _ _ _ (by rw [raL]; exact hk) (by rw [hql]; exact hk), za, at_zero, qk k hk, Nat.zero_add]
          exact solve_q (byt_exp a) (ex a) (hqS k) (byt_at ge2 k)
      · obtain rfl : b = d + 1 := by omega
        obtain ⟨ra, hra⟩ : ∃ ra, ra = addR (row R a) p 1 := ⟨_, rfl⟩
        have hX2 : X = (R.set a ra).set (d + 1) (sumQ ((R.set a ra).take d) n) := by
          rw [hX, hra]
          simp [dataR, parR, had, show ¬ d + 1 < d from by omega]
        have ht : X.take d = (R.take d).set a ra := by rw [hX2, take_set_ge (by omega), take_set_lt]
        refine ⟨?_, ?_⟩
        · rw [ht, hX2, Tw.row_set_ne (by omega), Tw.row_set_ne (by omega)]
          refine ext_at (by rw [sumP_len, gd1]) (fun k hk => ?_)
          rw [sumP_len] at hk
          rw [sumP_at _ hk, pS_set _ a ra k haT, raT, at_zero, hra, addR_at _ _ _ _ (by rw [raL]; exact hk) (by rw [hpl]; exact hk), za, at_zero, pk k hk]
          exact solve_p (hpS k) (byt_at gd2 k)
        · rw [ht, hX2, Tw.row_set_self (by rw [List.length_set]; omega), take_set_lt]
end Go.Proofs.Ytibileffpgnjhaa.Cw
namespace Go.Proofs.Ytibileffpgnjhaa.Cd
open Go.RowKit Go.Proofs.YtibileffpgnjhaaW.PrintWords
open Go.Proofs.Ytibileffpgnjhaa.PRq Go.Proofs.Ytibileffpgnjhaa.Fld Go.Proofs.Ytibileffpgnjhaa.Pl Go.Proofs.Ytibileffpgnjhaa.Ot Go.Proofs.Ytibileffpgnjhaa.Tw Go.Proofs.Ytibileffpgnjhaa.Kp Go.Proofs.Ytibileffpgnjhaa.Fw Go.Proofs.Ytibileffpgnjhaa.Co Go.Proofs.Ytibileffpgnjhaa.Cw
set_option linter.unusedSimpArgs false
set_option linter.unusedVariables false
/-- rows of which the last two are the parities of the others -/
structure Code (A : List (List Int)) (n d : Nat) : Prop where
  good : GoodR n A
  len : A.length = d + 2
  p : sumP (A.take d) n = row A d
  q : sumQ (A.take d) n = row A (d + 1)
theorem xorI_eq {x y : Int} (hx : Byt x) (hy : Byt y) (h : xorI x y = 0) : x = y := by
  have h1 := congrArg (xorI x) h
  rw [xorI_self_left _ hy, xorI_zero hx] at h1
  exact h1.symm
theorem mulI_eq_zero {x y : Int} (hx : Byt x) (hy : Byt y) (h0 : x ≠ 0) (h : mulI x y = 0) : y = 0 := by
  have h1 := congrArg (mulI (invI x)) h
  rw [← mulI_assoc (byt_inv hx) hx hy, mulI_comm (byt_inv hx) hx, mulI_inv hx h0, mulI_zero (byt_inv hx), mulI_comm ⟨by omega, by omega⟩ hy, mulI_one hy] at h1
  exact h1
theorem row_at_ext {A B : List (List Int)} {n i : Nat} (hA : GoodR n A) (hB : GoodR n B) (hi : i < A.length) (hj : i < B.length) (h : ∀ k, k < n → at_ (row A i) k = at_ (row B i) k) : row A i = row B i := by
  have h1 := (Tw.good_row hA hi).1
  have h2 := (Tw.good_row hB hj).1
  exact ext_at (by rw [h1, h2]) (fun k hk => h k (by rw [← h1]; exact hk))
/-- rows that are alike but for one -/
theorem set_of {A B : List (List Int)} {a : Nat} (hl : A.length = B.length) (h : ∀ j, j < A.length → j ≠ a → row A j = row B j) : B = A.set a (row B a) := by
  refine row_ext (by rw [List.length_set, hl]) (fun j hj => ?_)
  by_cases e : j = a
  · subst e
    rw [Tw.row_set_self (by omega)]
  · rw [Tw.row_set_ne (Ne.symm e), h j (by omega) e]
theorem set_of2 {A B : List (List Int)} {a b : Nat} (hab : a ≠ b) (hl : A.length = B.length) (h : ∀ j, j < A.length → j ≠ a → j ≠ b → row A j = row B j) : B = (A.set a (row B a)).set b (row B b) := by
  refine row_ext (by rw [List.length_set, List.length_set, hl]) (fun j hj => ?_)
  by_cases e : j = b
  · subst e
    rw [Tw.row_set_self (by rw [List.length_set]; omega)]
  · rw [Tw.row_set_ne (Ne.symm e)]
    by_cases e2 : j = a
    · subst e2
      rw [Tw.row_set_self (by omega)]
    · rw [Tw.row_set_ne (Ne.symm e2), h j (by omega) e2 e]
theorem uniq {A B : List (List Int)} {n d a b : Nat} (hA : Code A n d) (hB : Code B n d) (h16 : d + 2 ≤ 16) (hab : a < b) (hb : b < d + 2) (h : ∀ j, j < d + 2 → j ≠ a → j ≠ b → row A j = row B j) : A = B := by
  have lA := hA.len
  have lB := hB.len
  have gT := good_take (m := d) hA.good
  have gU := good_take (m := d) hB.good
  have bT : ∀ x ∈ A.take d, Bytes x := fun x hx => (gT x hx).2
  have lT : (A.take d).length = d := by rw [List.length_take]; omega
  have lU : (B.take d).length = d := by rw [List.length_take]; omega
  have byA : ∀ i k, i < d + 2 → Byt (at_ (row A i) k) := fun i k hi => byt_at (Tw.good_row hA.good (by omega)).2 k
  have byB : ∀ i k, i < d + 2 → Byt (at_ (row B i) k) := fun i k hi => byt_at (Tw.good_row hB.good (by omega)).2 k
  have rT : ∀ j, j < d → row (A.take d) j = row A j := fun j hj => row_take hj
  have rU : ∀ j, j < d → row (B.take d) j = row B j := fun j hj => row_take hj
  have pA : ∀ k, k < n → pS (A.take d) k = at_ (row A d) k := fun k hk => by rw [← hA.p, sumP_at _ hk]
  have qA : ∀ k, k < n → qS 0 (A.take d) k = at_ (row A (d + 1)) k := fun k hk => by rw [← hA.q, sumQ_at _ hk]
  have pB : ∀ k, k < n → pS (B.take d) k = at_ (row B d) k := fun k hk => by rw [← hB.p, sumP_at _ hk]
  have qB : ∀ k, k < n → qS 0 (B.take d) k = at_ (row B (d + 1)) k := fun k hk => by rw [← hB.q, sumQ_at _ hk]
  have ex : ∀ i, expI i ≠ 0 := fun i h => pw_ne_zero i (by unfold expI at h; omega)
  -- the data are the same
  have hdata : ∀ j, j < d → row A j = row B j := by
    by_cases had : d ≤ a
    · exact fun j hj => h j (by omega) (by omega) (by omega)
    by_cases hbd : b < d
    · -- both are data
      have hS : B.take d = ((A.take d).set a (row B a)).set b (row B b) := by
        have := set_of2 (A := A.take d) (B := B.take d) (a := a) (b := b) (by omega) (by rw [lT, lU]) (fun j hj h1 h2 => by rw [lT] at hj; rw [rT j hj, rU j hj]; exact h j (by omega) h1 h2)
        rwa [rU a (by omega), rU b hbd] at this
      have bS : ∀ x ∈ (A.take d).set a (row B a), Bytes x := by
        intro x hx
        rcases List.mem_or_eq_of_mem_set hx with hx | rfl
        · exact bT x hx
        · exact (Tw.good_row hB.good (by omega)).2
      have key : ∀ k, k < n → at_ (row A a) k = at_ (row B a) k ∧ at_ (row A b) k = at_ (row B b) k := by
        intro k hk
        have e1 := pB k hk
        have e2 := qB k hk
        have r2 : row ((A.take d).set a (row B a)) b = row A b := by rw [Tw.row_set_ne (by omega), rT b hbd]
        rw [hS, pS_set _ b _ k (by rw [List.length_set, lT]; exact hbd), r2, pS_set _ a _ k (by rw [lT]; omega), rT a (by omega), pA k hk, ← h d (by omega) (by omega) (by omega)] at e1
        rw [hS, qS_set _ 0 b _ k (by rw [List.length_set, lT]; exact hbd) bS (Tw.good_row hB.good (by omega)).2, r2, qS_set _ 0 a _ k (by rw [lT]; omega) bT (Tw.good_row hB.good (by omega)).2, rT a (by omega), qA k hk, ← h (d + 1) (by omega) (by omega) (by omega), Nat.zero_add, Nat.zero_add] at e2
        have bd := byA d k (by omega)
        have be := byA (d + 1) k (by omega)
        have u1 := byt_xor (byA a k (by omega)) (byB a k (by omega))
        have u2 := byt_xor (byA b k (by omega)) (byB b k (by omega))
        generalize hu : xorI (at_ (row A a) k) (at_ (row B a) k) = u at e1 e2 u1
        generalize hv : xorI (at_ (row A b) k) (at_ (row B b) k) = v at e1 e2 u2
        have f1 : xorI u v = 0 := by
          have := congrArg (xorI (at_ (row A d) k)) e1
          rwa [xorI_self, xorI_assoc, xorI_self_left _ (byt_xor u1 u2)] at this
        have f2 : xorI (mulI (expI a) u) (mulI (expI b) v) = 0 := by
          have := congrArg (xorI (at_ (row A (d + 1)) k)) e2
          rwa [xorI_self, xorI_assoc, xorI_self_left _ (byt_xor (byt_mul u1) (byt_mul u2))] at this
        have f3 := xorI_eq u1 u2 f1
        rw [← f3] at f2
        have f4 : mulI (xorI (expI a) (expI b)) u = 0 := by
          rw [mulI_comm (byt_xor (byt_exp a) (byt_exp b)) u1, mulI_xor (byt_exp a) (byt_exp b), mulI_comm u1 (byt_exp a), mulI_comm u1 (byt_exp b)]
          exact f2
        have f5 := mulI_eq_zero (byt_xor (byt_exp a) (byt_exp b)) u1 (Tw.xor_ne (by omega) (by omega) (by omega)) f4
        rw [← f3, f5] at hv
        rw [f5] at hu
        exact ⟨xorI_eq (byA a k (by omega)) (byB a k (by omega)) hu, xorI_eq (byA b k (by omega)) (byB b k (by omega)) hv⟩
      intro j hj
      by_cases ja : j = a
      · subst ja
        exact row_at_ext hA.good hB.good (by omega) (by omega) (fun k hk => (key k hk).1)
      · by_cases jb : j = b
        · subst jb
          exact row_at_ext hA.good hB.good (by omega) (by omega) (fun k hk => (key k hk).2)
        · exact h j (by omega) ja jb
    · -- one is data
      have hS : B.take d = (A.take d).set a (row B a) := by
        have := set_of (A := A.take d) (B := B.take d) (a := a) (by rw [lT, lU]) (fun j hj h1 => by rw [lT] at hj; rw [rT j hj, rU j hj]; exact h j (by omega) h1 (by omega))
        rwa [rU a (by omega)] at this
      have key : ∀ k, k < n → at_ (row A a) k = at_ (row B a) k := by
        intro k hk
        have u1 := byt_xor (byA a k (by omega)) (byB a k (by omega))
        by_cases hbe : b = d
        · have e2 := qB k hk
          rw [hS, qS_set _ 0 a _ k (by rw [lT]; omega) bT (Tw.good_row hB.good (by omega)).2, rT a (by omega), qA k hk, ← h (d + 1) (by omega) (by omega) (by omega), Nat.zero_add] at e2
          have f2 : mulI (expI a) (xorI (at_ (row A a) k) (at_ (row B a) k)) = 0 := by
            have := congrArg (xorI (at_ (row A (d + 1)) k)) e2
            rwa [xorI_self, xorI_self_left _ (byt_mul u1)] at this
          exact xorI_eq (byA a k (by omega)) (byB a k (by omega)) (mulI_eq_zero (byt_exp a) u1 (ex a) f2)
        · have e1 := pB k hk
          rw [hS, pS_set _ a _ k (by rw [lT]; omega), rT a (by omega), pA k hk, ← h d (by omega) (by omega) (by omega)] at e1
          have f1 : xorI (at_ (row A a) k) (at_ (row B a) k) = 0 := by
            have := congrArg (xorI (at_ (row A d) k)) e1
            rwa [xorI_self, xorI_self_left _ u1] at this
          exact xorI_eq (byA a k (by omega)) (byB a k (by omega)) f1
      intro j hj
      by_cases ja : j = a
      · subst ja
        exact row_at_ext hA.good hB.good (by omega) (by omega) key
      · exact h j (by omega) ja (by omega)
  have htk : A.take d = B.take d := row_ext (by rw [lT, lU]) (fun j hj => by rw [lT] at hj; rw [rT j hj, rU j hj]; exact hdata j hj)
  refine row_ext (by rw [lA, lB]) (fun j hj => ?_)
  by_cases h1 : j < d
  · exact hdata j h1
  · by_cases h2 : j = d
    · subst h2; rw [← hA.p, ← hB.p, htk]
    · obtain rfl : j = d + 1 := by omega
      rw [← hA.q, ← hB.q, htk]
end Go.Proofs.Ytibileffpgnjhaa.Cd
