/-
  rs.Fix.
-/
import Derived.Test.YtdbnladpogpiiaaOw
import Derived.Test.YtdbnladpogpiiaaSr
import Derived.ScopeJumps
import Derived.WalkMore
namespace Go.Proofs.Ytdbnladpogpiiaa.Fw
open Go.RowKit Go.Proofs.YtdbnladpogpiiaaW.PrintWords
open Go.Proofs.Ytdbnladpogpiiaa.PRq Go.Proofs.Ytdbnladpogpiiaa.Fld Go.Proofs.Ytdbnladpogpiiaa.Pl Go.Proofs.Ytdbnladpogpiiaa.Ot Go.Proofs.Ytdbnladpogpiiaa.Tw Go.Proofs.Ytdbnladpogpiiaa.Kp Go.Proofs.Ytdbnladpogpiiaa.Ow Go.Proofs.Ytdbnladpogpiiaa.Sr
set_option linter.unusedSimpArgs false
set_option linter.unusedVariables false

theorem sums_any (A : Option Addr) (m c n : Nat) (L : List (List Int)) (w : World) (hm : m = L.length) (hr : Kd.C (Kd.slice 5 (Kd.int .u8)) w A m L) (hc : m ≤ c) (hg : GoodR n L) (h254 : L.length ≤ 254) (hn : n ≤ 1000000) :
    Calls Try.prog 27 #[.slice A m c, .int .i64 (n : Int)] w fun e w' => ∃ v0 v1, e = .returned (.tuple #[v0, v1]) ∧ BR w' w.heap.size v0 (sumP L n) ∧ BR w' w.heap.size v1 (sumQ L n) ∧ (∀ k, v0.ownBlock = some k → v1.ownBlock ≠ some k) ∧ Below w.heap.size w w' := by
  subst hm
  obtain ⟨k, hk⟩ := (sums_ev L n (fun r h => (hg r h).1) (fun r h => (hg r h).2) h254 (by omega)).rounds
  refine (rs_sums.calls k A c L n _ _ w hr hc hk).mono ?_
  rintro e w' ⟨v0, v1, rfl, h0, h1, hb⟩
  exact ⟨v0, v1, rfl, BR.of h0, BR.of h1, fun k e1 e2 => h0.1 k e1 e2.symm, hb⟩

theorem may_facts {l : List (List Int)} {lost : List Int} (h : mayB l lost = true) : 4 ≤ l.length ∧ l.length ≤ 16 ∧ lost.length ≤ 2 ∧ (∀ i ∈ lost, 0 ≤ i ∧ i < l.length) ∧ lost.Nodup ∧ alikeR (kept l lost) = true := by
  simp only [mayB, Bool.and_eq_true, decide_eq_true_eq, List.all_eq_true] at h
  obtain ⟨⟨⟨⟨⟨h1, h2⟩, h3⟩, h4⟩, h5⟩, h6⟩ := h
  exact ⟨h1, h2, h3, h4, h5, h6⟩
theorem alike_len {L : List (List Int)} (h : alikeR L = true) : ∀ r ∈ L, r.length = lenR L := by
  cases L with
  | nil => intro r hr; cases hr
  | cons q L =>
    intro r hr
    simp only [alikeR, List.all_eq_true, beq_iff_eq] at h
    rcases List.mem_cons.1 hr with rfl | hr
    · rfl
    · exact h r hr
theorem kept_len {l : List (List Int)} {lost : List Int} (h : alikeR (kept l lost) = true) (i : Nat) (hi : i < l.length) (hc : lost.contains (i : Int) = false) : (row l i).length = lenR (kept l lost) := by
  refine alike_len h _ ?_
  rw [kept_idx]
  refine List.mem_map.2 ⟨i, ?_, rfl⟩
  unfold idx
  rw [List.mem_filter]
  exact ⟨by simpa using hi, by rw [hc]; rfl⟩
theorem lenR_le {l : List (List Int)} {lost : List Int} (h : ∀ r ∈ l, r.length ≤ 1000000) : lenR (kept l lost) ≤ 1000000 := by
  rw [kept_idx]
  cases hi : idx l.length lost with
  | nil => simp [lenR]
  | cons i L =>
    have him : i ∈ idx l.length lost := by rw [hi]; simp
    have := idx_lt him
    simp only [List.map_cons, lenR]
    rw [row_lt this]
    exact h _ (List.getElem_mem this)
theorem own_good {l : List (List Int)} {lost : List Int} {n : Nat} (hb : ∀ r ∈ l, Bytes r) (hk : ∀ i : Nat, i < l.length → lost.contains (i : Int) = false → (row l i).length = n) : GoodR n (ownR l lost n) := by
  intro r hr
  obtain ⟨i, hi, rfl⟩ := List.getElem_of_mem hr
  have hil : i < l.length := by simpa [ownR] using hi
  simp only [ownR, List.getElem_mapIdx]
  split
  · refine ⟨by simp, fun x hx => ?_⟩
    rw [List.mem_replicate] at hx
    rw [hx.2]; exact byt_zero
  · rename_i hc
    have := hk i hil (Bool.eq_false_iff.2 hc)
    rw [row_lt hil] at this
    exact ⟨this, hb _ (List.getElem_mem hil)⟩
theorem own_len (l : List (List Int)) (lost : List Int) (n : Nat) : (ownR l lost n).length = l.length := by simp [ownR]
theorem gone_of {lost : List Int} {N : Nat} (h2 : lost.length ≤ 2) (hin : ∀ i ∈ lost, 0 ≤ i ∧ i < N) (hnd : lost.Nodup) :
    srt lost = [] ∨ (∃ a : Nat, srt lost = [(a : Int)] ∧ a < N) ∨ ∃ a b : Nat, srt lost = [(a : Int), (b : Int)] ∧ a < b ∧ b < N := by
  match lost, h2, hin, hnd with
  | [], _, _, _ => exact .inl rfl
  | [x], _, hin, _ =>
    have := hin x (by simp)
    exact .inr (.inl ⟨x.toNat, by simp [srt]; omega, by omega⟩)
  | [x, y], _, hin, hnd =>
    have h1 := hin x (by simp)
    have h2 := hin y (by simp)
    have h3 : x ≠ y := by simpa using hnd
    refine .inr (.inr ?_)
    by_cases h : x ≤ y
    · exact ⟨x.toNat, y.toNat, by simp [srt, h]; omega, by omega, by omega⟩
    · exact ⟨y.toNat, x.toNat, by simp [srt, h]; omega, by omega, by omega⟩
theorem gone_all {lost : List Int} {N : Nat} (h2 : lost.length ≤ 2) (hin : ∀ i ∈ lost, 0 ≤ i ∧ i < N) (hnd : lost.Nodup) : (srt lost).length ≤ 2 ∧ ∀ j (h : j < (srt lost).length), ∃ i : Nat, (srt lost)[j] = (i : Int) ∧ i < N := by
  rcases gone_of h2 hin hnd with h | ⟨a, h, ha⟩ | ⟨a, b, h, ha, hb⟩
  · rw [h]; exact ⟨by simp, fun j hj => absurd hj (by simp)⟩
  · simp only [h]
    refine ⟨by simp, fun j hj => ?_⟩
    obtain rfl : j = 0 := by simp at hj; omega
    exact ⟨a, rfl, ha⟩
  · simp only [h]
    refine ⟨by simp, fun j hj => ?_⟩
    have : j = 0 ∨ j = 1 := by simp at hj; omega
    rcases this with rfl | rfl
    · exact ⟨a, rfl, by omega⟩
    · exact ⟨b, rfl, hb⟩
theorem good_take {n m : Nat} {rows : List (List Int)} (h : GoodR n rows) : GoodR n (rows.take m) := fun r hr => h r (List.mem_of_mem_take hr)

theorem two_len (rows : List (List Int)) (a b : Nat) (p q : List Int) : (twoR rows a b p q).length = rows.length := by unfold twoR; simp
theorem good_two {n a b : Nat} {rows : List (List Int)} {p q : List Int} (h : GoodR n rows) (ha : a < rows.length) (hb : b < rows.length) (hp : p.length = n ∧ Bytes p) (hq : q.length = n ∧ Bytes q) : GoodR n (twoR rows a b p q) := by
  have e1 := byt_inv (byt_xor (byt_exp a) (byt_exp b))
  have e2 : Byt (mulI (invI (xorI (expI a) (expI b))) (expI b)) := byt_mul (byt_exp b)
  have e3 : Byt 1 := ⟨by omega, by omega⟩
  have r1 := good_add (good_add (Tw.good_row h ha) hq.2 e1) hp.2 e2
  exact good_set (good_set h r1) (good_add (good_add (Tw.good_row h hb) hp.2 e3) r1.2 e3)
/-- a row of parity, added to -/
theorem fs_addP {w0 w w1 : World} {G : Nat} {hs : List Value} {rows : List (List Int)} {vp vq vg : Value} {p p' q gone : List Int} (F : FS w0 w G hs rows vp p vq q vg gone) (hpq : ∀ k, vp.ownBlock = some k → vq.ownBlock ≠ some k)
    (hB : Below w0.heap.size w0 w1) (hk : Kept w w1 (fun k => some k = vp.ownBlock)) (hp : BR w1 w0.heap.size vp p') : FS w0 w1 G hs rows vp p' vq q vg gone := by
  have hrow : ∀ (i : Nat) (h : Value) (r : List Int), hs[i]? = some h → rows[i]? = some r → BR w1 w0.heap.size h r := fun i h r h1 h2 => (F.O.row i h r h1 h2).kept hk (fun k e => F.P.2 i h k h1 e)
  refine ⟨hB, ⟨own_move F.O.head (fun k e => hk.2 k (own_lt F.O.head k e) (fun h2 => ?_)), hrow, F.O.apart, F.O.max⟩, ⟨hp, F.P.2⟩, ⟨F.Q.1.kept hk (fun k e h2 => hpq k h2 e), F.Q.2⟩, own_move F.g (fun k e => hk.2 k (own_lt F.g k e) (fun h2 => ?_))⟩
  · rcases own_type_ne F.P.1 F.O.head (by decide) with h1 | h1
    · rw [h1] at h2; cases h2
    · exact h1 (by rw [← h2, e])
  · rcases own_type_ne F.P.1 F.g (by decide) with h1 | h1
    · rw [h1] at h2; cases h2
    · exact h1 (by rw [← h2, e])
theorem fs_addQ {w0 w w1 : World} {G : Nat} {hs : List Value} {rows : List (List Int)} {vp vq vg : Value} {p q' q gone : List Int} (F : FS w0 w G hs rows vp p vq q vg gone) (hpq : ∀ k, vp.ownBlock = some k → vq.ownBlock ≠ some k)
    (hB : Below w0.heap.size w0 w1) (hk : Kept w w1 (fun k => some k = vq.ownBlock)) (hq : BR w1 w0.heap.size vq q') : FS w0 w1 G hs rows vp p vq q' vg gone := by
  have F' : FS w0 w G hs rows vq q vp p vg gone := ⟨F.B, F.O, F.Q, F.P, F.g⟩
  have F2 := fs_addP F' (fun k e1 e2 => hpq k e2 e1) hB hk hq
  exact ⟨F2.B, F2.O, F2.Q, F2.P, F2.g⟩
/-! ### a scope that is left by one goto ahead -/
theorem wp_scope_fwd {P : Program} {a : Act} {w : World} {Q : Exit → Act → World → Prop} {c rest : Code} (l : Nat) (J : Act → World → Prop) (hf : findLabel c l = some (Code.skip.seq rest)) (tail : ∀ a w, J a w → rest.wp P (Exit.noGoto Q) a w)
    (first : (∀ a w, J a w → rest.wp P (Exit.noGoto Q) a w) → c.wp P (Exit.jump l J Q) a w) : (Code.scope c).wp P Q a w :=
  wp_scope_jumps l J (fun _ _ => 0) hf (first tail) (fun a w hJ => wp_seq (wp_skip (Code.wp_mono (fun e a w h => by cases e <;> first | exact h | exact (h : False).elim) (tail a w hJ))))
/-- what is so where the parities are made again -/
structure JF (w0 w : World) (G : Nat) (hs : List Value) (rows : List (List Int)) (vg : Value) (gone : List Int) (todo : List Nat) (n d : Nat) (want : List (List Int)) : Prop where
  B : Below w0.heap.size w0 w
  O : Out w w0.heap.size G hs rows
  g : w.ownsRow w0.heap.size 3 1 vg gone.length (encs (Value.int .i64) gone)
  good : GoodR n rows
  len : rows.length = d + 2
  par : parR rows todo d n = want
theorem gone_cell {w : World} {base cg : Nat} {Ag : Option Addr} {gone : List Int} (h : w.ownsRow base 3 1 (.slice Ag gone.length cg) gone.length (encs (Value.int .i64) gone)) (j : Nat) (hj : j < gone.length) (x : Int) (he : gone[j] = x) : ∃ g, Ag = some ⟨g, 0, none⟩ ∧ w.cell? ⟨g, j, none⟩ = some (.int .i64 x) := by
  rcases h.2 with ⟨h1, h2⟩ | ⟨g, cap, cur, h1, _⟩
  · omega
  · cases h1
    refine ⟨g, rfl, ?_⟩
    rw [h.cellAt j (by omega)]
    simp [encs, hj, he]
theorem gone_at {w : World} {base cg g : Nat} {gone : List Int} (h : w.ownsRow base 3 1 (.slice (some ⟨g, 0, none⟩) gone.length cg) gone.length (encs (Value.int .i64) gone)) (j : Nat) (hj : j < gone.length) (x : Int) (he : gone[j] = x) : w.cell? ⟨g, j, none⟩ = some (.int .i64 x) := by
  obtain ⟨g', e, hx⟩ := gone_cell h j hj x he
  cases e
  exact hx
theorem JF.below {w0 w w1 : World} {G : Nat} {hs : List Value} {rows : List (List Int)} {vg : Value} {gone : List Int} {todo : List Nat} {n d : Nat} {want : List (List Int)} (J : JF w0 w G hs rows vg gone todo n d want) (hb : Below w.heap.size w w1) : JF w0 w1 G hs rows vg gone todo n d want :=
  ⟨J.B.trans (hb.mono J.B.size), J.O.below hb, pw_own_below J.g hb, J.good, J.len, J.par⟩
theorem JF.set {w0 w : World} {G i : Nat} {hs : List Value} {rows : List (List Int)} {v vg : Value} {gone : List Int} {todo : List Nat} {n d : Nat} {want : List (List Int)} {r : List Int} (J : JF w0 w G hs rows vg gone (i :: todo) n d want) (hid : d ≤ i) (hi : i < d + 2) (hv : BR w w0.heap.size v r)
    (hne : ∀ (j : Nat) (g : Value) (k : Nat), hs[j]? = some g → g.ownBlock = some k → v.ownBlock ≠ some k) (hr : r = if i = d then sumP (rows.take d) n else sumQ (rows.take d) n) : JF w0 (w.setCell ⟨G, i, none⟩ v) G (hs.set i v) (rows.set i r) vg gone todo n d want := by
  have hG := J.O.baseG
  have hgd : GoodR n (rows.take d) := good_take J.good
  refine ⟨J.B.setCell (p := ⟨G, i, none⟩) hG v, J.O.set (by rw [J.len]; exact hi) hv hne, own_move J.g (fun k e => Below.heap_setCell w ⟨G, i, none⟩ v k (fun e2 => ?_)), good_set J.good ?_, by rw [List.length_set]; exact J.len, ?_⟩
  · rcases own_type_ne J.g J.O.head (by decide) with h1 | h1
    · rw [h1] at e; cases e
    · exact h1 (by rw [e, e2]; rfl)
  · rw [hr]
    split
    · exact ⟨sumP_len _ _, bytes_sumP _ _ (fun q hq => (hgd q hq).2)⟩
    · exact ⟨sumQ_len _ _, bytes_sumQ _ _ (fun q hq => (hgd q hq).2)⟩
  · have := J.par
    rw [hr]
    simpa [parR, hid] using this
def JJ (w0 : World) (A A' : Option Addr) (c c' : Nat) (L : List (List Int)) (lost gone : List Int) (n d : Nat) (want : List (List Int)) (a : Act) (w : World) : Prop :=
  ∃ (G : Nat) (hs : List Value) (rows : List (List Int)) (vg : Value) (u : Nat → Value), a = ⟨#[.slice A L.length c, .slice A' lost.length c', u 2, u 3, u 4, u 5, .int .i64 (n : Int), u 7, .slice (some ⟨G, 0, none⟩) L.length L.length, .int .i64 (d : Int), vg, u 11, u 12, u 13, u 14, u 15, u 16, u 17, u 18, u 19, u 20, u 21, u 22, u 23, u 24, u 25, u 26, u 27, u 28, u 29, u 30, u 31, u 32, u 33, u 34, u 35, u 36, u 37, u 38, u 39, u 40, u 41, u 42, u 43, u 44, u 45, u 46, u 47, u 48, u 49, u 50, u 51, u 52, u 53, u 54, u 55, u 56, u 57, u 58, u 59, u 60, u 61, u 62, u 63, u 64, u 65, u 66, u 67, u 68, u 69, u 70, u 71, u 72, u 73, u 74, u 75, u 76, u 77, u 78, u 79, u 80, u 81, u 82, u 83, u 84, u 85, u 86, u 87, u 88, u 89, u 90, u 91, u 92, u 93, u 94, u 95, u 96, u 97, u 98, u 99, u 100, u 101, u 102, u 103, u 104, u 105, u 106, u 107, u 108, u 109, u 110, u 111, u 112, u 113, u 114, u 115, u 116, u 117, u 118, u 119, u 120, u 121, u 122, u 123, u 124, u 125, u 126, u 127, u 128, u 129, u 130, u 131, u 132, u 133, u 134, u 135, u 136, u 137, u 138, u 139, u 140, u 141, u 142, u 143, u 144, u 145, u 146, u 147, u 148], []⟩ ∧ Hid (JF w0 w G hs rows vg gone (gone.map Int.toNat) n d want)
theorem JJ_of {w0 w : World} {A A' : Option Addr} {c c' : Nat} {L : List (List Int)} {lost gone : List Int} {n d : Nat} {want : List (List Int)} {a : Act} {G : Nat} {hs : List Value} {rows : List (List Int)} {vg : Value}
    (h : a = ⟨#[.slice A L.length c, .slice A' lost.length c', a.tmps.getD 2 undef, a.tmps.getD 3 undef, a.tmps.getD 4 undef, a.tmps.getD 5 undef, .int .i64 (n : Int), a.tmps.getD 7 undef, .slice (some ⟨G, 0, none⟩) L.length L.length, .int .i64 (d : Int), vg, a.tmps.getD 11 undef, a.tmps.getD 12 undef, a.tmps.getD 13 undef, a.tmps.getD 14 undef, a.tmps.getD 15 undef, a.tmps.getD 16 undef, a.tmps.getD 17 undef, a.tmps.getD 18 undef, a.tmps.getD 19 undef, a.tmps.getD 20 undef, a.tmps.getD 21 undef, a.tmps.getD 22 undef, a.tmps.getD 23 undef, a.tmps.getD 24 undef, a.tmps.getD 25 undef, a.tmps.getD 26 undef, a.tmps.getD 27 undef, a.tmps.getD 28 undef, a.tmps.getD 29 undef, a.tmps.getD 30 undef, a.tmps.getD 31 undef, a.tmps.getD 32 undef, a.tmps.getD 33 undef, a.tmps.getD 34 undef, a.tmps.getD 35 undef, a.tmps.getD 36 undef, a.tmps.getD 37 undef, a.tmps.getD 38 undef, a.tmps.getD 39 undef, a.tmps.getD 40 undef, a.tmps.getD 41 undef, a.tmps.getD 42 undef, a.tmps.getD 43 undef, a.tmps.getD 44 undef, a.tmps.getD 45 undef, a.tmps.getD 46 undef, a.tmps.getD 47 undef, a.tmps.getD 48 undef, a.tmps.getD 49 undef, a.tmps.getD 50 undef, a.tmps.getD 51 undef, a.tmps.getD 52 undef, a.tmps.getD 53 undef, a.tmps.getD 54 undef, a.tmps.getD 55 undef, a.tmps.getD 56 undef, a.tmps.getD 57 undef, a.tmps.getD 58 undef, a.tmps.getD 59 undef, a.tmps.getD 60 undef, a.tmps.getD 61 undef, a.tmps.getD 62 undef, a.tmps.getD 63 undef, a.tmps.getD 64 undef, a.tmps.getD 65 undef, a.tmps.getD 66 undef, a.tmps.getD 67 undef, a.tmps.getD 68 undef, a.tmps.getD 69 undef, a.tmps.getD 70 undef, a.tmps.getD 71 undef, a.tmps.getD 72 undef, a.tmps.getD 73 undef, a.tmps.getD 74 undef, a.tmps.getD 75 undef, a.tmps.getD 76 undef, a.tmps.getD 77 undef, a.tmps.getD 78 undef, a.tmps.getD 79 undef, a.tmps.getD 80 undef, a.tmps.getD 81 undef, a.tmps.getD 82 undef, a.tmps.getD 83 undef, a.tmps.getD 84 undef, a.tmps.getD 85 undef, a.tmps.getD 86 undef, a.tmps.getD 87 undef, a.tmps.getD 88 undef, a.tmps.getD 89 undef, a.tmps.getD 90 undef, a.tmps.getD 91 undef, a.tmps.getD 92 undef, a.tmps.getD 93 undef, a.tmps.getD 94 undef, a.tmps.getD 95 undef, a.tmps.getD 96 undef, a.tmps.getD 97 undef, a.tmps.getD 98 undef, a.tmps.getD 99 undef, a.tmps.getD 100 undef, a.tmps.getD 101 undef, a.tmps.getD 102 undef, a.tmps.getD 103 undef, a.tmps.getD 104 undef, a.tmps.getD 105 undef, a.tmps.getD 106 undef, a.tmps.getD 107 undef, a.tmps.getD 108 undef, a.tmps.getD 109 undef, a.tmps.getD 110 undef, a.tmps.getD 111 undef, a.tmps.getD 112 undef, a.tmps.getD 113 undef, a.tmps.getD 114 undef, a.tmps.getD 115 undef, a.tmps.getD 116 undef, a.tmps.getD 117 undef, a.tmps.getD 118 undef, a.tmps.getD 119 undef, a.tmps.getD 120 undef, a.tmps.getD 121 undef, a.tmps.getD 122 undef, a.tmps.getD 123 undef, a.tmps.getD 124 undef, a.tmps.getD 125 undef, a.tmps.getD 126 undef, a.tmps.getD 127 undef, a.tmps.getD 128 undef, a.tmps.getD 129 undef, a.tmps.getD 130 undef, a.tmps.getD 131 undef, a.tmps.getD 132 undef, a.tmps.getD 133 undef, a.tmps.getD 134 undef, a.tmps.getD 135 undef, a.tmps.getD 136 undef, a.tmps.getD 137 undef, a.tmps.getD 138 undef, a.tmps.getD 139 undef, a.tmps.getD 140 undef, a.tmps.getD 141 undef, a.tmps.getD 142 undef, a.tmps.getD 143 undef, a.tmps.getD 144 undef, a.tmps.getD 145 undef, a.tmps.getD 146 undef, a.tmps.getD 147 undef, a.tmps.getD 148 undef], []⟩) (hJ : JF w0 w G hs rows vg gone (gone.map Int.toNat) n d want) : JJ w0 A A' c c' L lost gone n d want a w := ⟨G, hs, rows, vg, fun k => a.tmps.getD k undef, h, Lib.hid hJ⟩
theorem JF_of {w0 w : World} {G n d : Nat} {hs : List Value} {rows want : List (List Int)} {vp vq vg : Value} {p q gone : List Int} (F : FS w0 w G hs rows vp p vq q vg gone) (hg : GoodR n rows) (hl : rows.length = d + 2) (hp : parR rows (gone.map Int.toNat) d n = want) : JF w0 w G hs rows vg gone (gone.map Int.toNat) n d want := ⟨F.B, F.O, F.g, hg, hl, hp⟩
set_option maxRecDepth 100000 in
set_option maxHeartbeats 4000000 in
theorem fix_true (A A' : Option Addr) (c c' : Nat) (L : List (List Int)) (lost : List Int) (w : World) (hm : L.length ≤ 1000000) (hm' : lost.length ≤ 1000000) (hr : Kd.C (Kd.slice 5 (Kd.int .u8)) w A L.length L) (ho : Kd.C (Kd.int .i64) w A' lost.length lost) (hc : L.length ≤ c) (hc' : lost.length ≤ c')
    (hb : ∀ r ∈ L, Bytes r) (hl : ∀ r ∈ L, r.length ≤ 1000000) (hmay : mayB L lost = true) :
    Calls Try.prog 22 #[.slice A L.length c, .slice A' lost.length c'] w fun e w' => ∃ v, e = .returned (.tuple #[v, .bool true]) ∧ Kd.N (Kd.slice 5 (Kd.int .u8)) 22 w' w.heap.size (fun k => w.heap.size ≤ k) v (fixR L lost) ∧ Below w.heap.size w w' := by
  obtain ⟨m1, m2, m3, m4, m5, m6⟩ := may_facts hmay
  have HM := Lib.hid (may_any A A' c c' L lost w hm hm' hr ho hc hc')
  rw [hmay] at HM
  have hnl := lenR_le (lost := lost) hl
  have HK := Lib.hid (kept_len m6)
  obtain ⟨n, hn⟩ : ∃ n, n = lenR (kept L lost) := ⟨_, rfl⟩
  rw [← hn] at HM HK hnl
  have HN := Lib.hid hn
  have GO := Lib.hid (gone_of m3 m4 m5)
  obtain ⟨gone, hgone⟩ : ∃ g, srt lost = g := ⟨_, rfl⟩
  have GA : Hid (gone.length ≤ 2 ∧ ∀ j (h : j < gone.length), ∃ i : Nat, gone[j] = (i : Int) ∧ i < L.length) := by
    subst hgone
    exact Lib.hid (gone_all m3 m4 m5)
  rw [hgone] at GO
  have HGone := Lib.hid hgone
  clear hgone
  have HR := Lib.hid hr
  have HO := Lib.hid ho
  have HG := Lib.hid (own_good hb HK.out)
  clear hr ho hn m4 m5 m6 hmay hb hl
  obtain ⟨d, hd⟩ : ∃ d : Nat, L.length = d + 2 := ⟨L.length - 2, by omega⟩
  have hd1 : (L.length : Int) - 2 = (d : Int) := by omega
  have HD := Lib.hid hd
  clear hd
  go_enter Try.func22, Try.ntmps22
  go_wp2
  refine wp_scope_fwd 0 (JJ w A A' c c' L lost gone n d (fixR L lost)) rfl ?tail ?first
  case tail =>
    clear HM GO HG
    rintro a w1 ⟨G, hs, rows, vg, u, rfl, HJ⟩
    obtain ⟨Ag, cg, rfl⟩ := own_slice HJ.out.g
    go_wp2_with fail
    go_loopw [121] (fun i wr => ∃ (j : Nat) (hs' : List Value) (rows' : List (List Int)), i = .int .i64 j ∧ j ≤ gone.length ∧ Hid (JF w wr G hs' rows' (.slice Ag gone.length cg) gone ((gone.drop j).map Int.toNat) n d (fixR L lost))) (fun i _ => gone.length - (intOf i).toNat)
    case atStart => exact ⟨0, hs, rows, rfl, Nat.zero_le _, by simpa using HJ⟩
    case round =>
      clear HJ
      obtain ⟨j, hs', rows', rfl, hj, HJ⟩ := hrel
      have hgl : gone.length ≤ 2 := GA.out.1
      have hj1 : wrap64 ((j : Int) + 1) = ((j + 1 : Nat) : Int) := by rw [w64 (by omega) (by omega)]; rfl
      by_cases hjl : j < gone.length
      · obtain ⟨i, hgi, hiL⟩ := GA.out.2 j hjl
        obtain ⟨g, e, hx⟩ := gone_cell HJ.out.g j hjl _ hgi
        subst e
        have HDR := Lib.hid (show (gone.drop j).map Int.toNat = i :: (gone.drop (j + 1)).map Int.toNat from by rw [List.drop_eq_getElem_cons hjl, List.map_cons, hgi]; rfl)
        rw [HDR.out] at HJ
        clear hgi
        by_cases hid : d ≤ i
        · have hrl := HJ.out.len
          have hcs := HD.out
          have HS := Lib.hid (sums_any (some ⟨G, 0, none⟩) d L.length n (rows'.take d) wr (by rw [List.length_take]; omega) (by have := HJ.out.O.C (m := d) (by omega); rwa [List.length_take, Nat.min_eq_left (by omega)] at this) (by omega) (good_take HJ.out.good) (by rw [List.length_take]; omega) hnl)
          have hdL : d ≤ L.length := by omega
          clear hrl hcs
          go_wp2_with fail
          refine HS.out.mono ?_
          rintro e w2 ⟨x, y, rfl, hx2, hy2, hxy, hb2⟩
          have hGB := HJ.out.B.size
          have HX2 := Lib.hid (show BR w2 w.heap.size x (sumP (rows'.take d) n) from own_weaken hx2 hGB)
          have HY2 := Lib.hid (show BR w2 w.heap.size y (sumQ (rows'.take d) n) from own_weaken hy2 hGB)
          have HXN := Lib.hid (fun (q : Nat) (h : Value) (k : Nat) (hq : hs'[q]? = some h) (hk : h.ownBlock = some k) => (show x.ownBlock ≠ some k from fun h3 => by
            have h4 := (List.getElem?_eq_some_iff.1 hq).1
            have h5 := HJ.out.O.len
            have h6 := own_lt (HJ.out.O.row q h _ hq (List.getElem?_eq_getElem (by omega))) k hk
            have h7 := own_base hx2 k h3
            omega))
          have HYN := Lib.hid (fun (q : Nat) (h : Value) (k : Nat) (hq : hs'[q]? = some h) (hk : h.ownBlock = some k) => (show y.ownBlock ≠ some k from fun h3 => by
            have h4 := (List.getElem?_eq_some_iff.1 hq).1
            have h5 := HJ.out.O.len
            have h6 := own_lt (HJ.out.O.row q h _ hq (List.getElem?_eq_getElem (by omega))) k hk
            have h7 := own_base hy2 k h3
            omega))
          have HJ2 := Lib.hid (HJ.out.below hb2)
          obtain ⟨hz, hzi⟩ := HJ2.out.O.get (i := i) (by have := HJ2.out.len; have := HD.out; omega)
          obtain ⟨Ax, cx, ex, _⟩ := HX2.out.slice
          obtain ⟨Ay, cy, ey, _⟩ := HY2.out.slice
          rw [sumP_len] at ex
          rw [sumQ_len] at ey
          subst ex ey
          have HA := Lib.hid (HJ2.out.below (below_alloc (Below.refl _ w2) (.cells #[.slice Ax n cx, .slice Ay n cy] 22)))
          have HXA := Lib.hid (HX2.out.below (below_alloc (Below.refl _ w2) (.cells #[.slice Ax n cx, .slice Ay n cy] 22)))
          have HYA := Lib.hid (HY2.out.below (below_alloc (Below.refl _ w2) (.cells #[.slice Ax n cx, .slice Ay n cy] 22)))
          have hcz := HA.out.O.cell hzi
          have hfz := HA.out.O.frozen i
          clear hx2 hy2 hxy hb2 HJ HX2 HY2 HJ2 hGB
          have hi2 : i = d ∨ i = d + 1 := by have := HD.out; omega
          rcases hi2 with rfl | rfl
          · go_wp2_with fail
            go_roundw
            case rel => exact ⟨j + 1, _, _, by simp, by omega, Lib.hid (HA.out.set (by omega) (by omega) HXA.out HXN.out (by rw [if_pos rfl]))⟩
            case measure => simp [intOf]; omega
          · go_wp2_with fail
            go_roundw
            case rel => exact ⟨j + 1, _, _, by simp, by omega, Lib.hid (HA.out.set (by omega) (by omega) HYA.out HYN.out (by rw [if_neg (by omega)]))⟩
            case measure => simp [intOf]; omega
        · go_wp2_with fail
          go_roundw
          case rel => exact ⟨j + 1, hs', rows', by simp, by omega, Lib.hid ⟨HJ.out.B, HJ.out.O, HJ.out.g, HJ.out.good, HJ.out.len, by have := HJ.out.par; simpa [parR, hid] using this⟩⟩
          case measure => simp [intOf]; omega
      · obtain rfl : j = gone.length := by omega
        have hpar := HJ.out.par
        rw [List.drop_length] at hpar
        have HPAR := Lib.hid (show rows' = fixR L lost from hpar)
        clear hpar
        go_wp2_with fail
        rw [Exit.noGoto_ret]
        refine bodyPost_ret (results_tmp2 rfl _ _ _) rfl ⟨_, rfl, ?_, HJ.out.B⟩
        have hN := HJ.out.O.N
        rw [HJ.out.len, HPAR.out] at hN
        rw [HD.out]
        exact hN
  case first =>
    intro ht
    have HT := Lib.hid ht
    clear ht
    go_wp2_with fail
    refine HM.out.mono ?_
    rintro e w1 ⟨r, rfl, hrn, hb1⟩
    obtain rfl : r = (n : Int) := hrn trivial
    have HB1 := Lib.hid hb1
    clear hrn hb1
    go_wp2_with fail
    refine (own_any A A' c c' n L lost w1 hm hm' hnl (Kd.C_below HR.out HB1.out) (Kd.C_below HO.out HB1.out) hc' HK.out).mono ?_
    rintro e w2 ⟨G, hs, rfl, O2, hb2⟩
    have HO2 := Lib.hid O2
    have HB2 := Lib.hid (HB1.out.trans (hb2.mono HB1.out.size))
    have HB12 := Lib.hid (HB1.out.size)
    clear O2 hb2
    go_wp2_with fail
    refine (Go.Proofs.Ytdbnladpogpiiaa.So.values_any A' lost.length c' w2).mono ?_
    rintro e w3 ⟨rfl, hw3⟩
    have HB3 := Lib.hid (show Below w2.heap.size w2 w3 from by rw [hw3]; exact below_alloc (Below.refl _ _) _)
    have hsz3 : w2.heap.size < w3.heap.size := by rw [hw3]; simp
    have fs3 : w3.cell? ⟨w2.heap.size, 0, none⟩ = some (.slice A' lost.length c') := by rw [hw3]; have := cell_one_new w2 (.slice A' lost.length c') 35 0 _ rfl; rwa [add_plain] at this
    have HS3 := Lib.hid (sorted_any w2.heap.size A' c' lost m3 w3 hsz3 fs3 (Kd.C_below HO.out (HB2.out.trans (HB3.out.mono HB2.out.size))))
    clear hw3 hsz3 fs3
    go_wp2_with fail
    refine HS3.out.mono ?_
    rintro e w4 ⟨vg, rfl, hg4, hb4⟩
    have HO4 := Lib.hid ((HO2.out.below HB3.out).below hb4)
    have HB4 := Lib.hid ((HB2.out.trans (HB3.out.mono HB2.out.size)).trans (hb4.mono ((HB2.out.trans (HB3.out.mono HB2.out.size)).size)))
    have HG4 := Lib.hid (show w4.ownsRow w.heap.size 3 1 vg gone.length (encs (Value.int .i64) gone) from by rw [← HGone.out]; exact own_weaken (Kd.own_of_R hg4) (Nat.le_trans HB2.out.size HB3.out.size))
    have hge4 : w.heap.size ≤ w4.heap.size := HB4.out.size
    clear HB3 HS3 HO2 HB2 hg4 hb4
    have hdL : d ≤ L.length := by omega
    have HOw := Lib.hid (show Out w4 w.heap.size G hs (ownR L lost n) from ⟨own_weaken HO4.out.head HB12.out, fun i h r h1 h2 => own_weaken (HO4.out.row i h r h1 h2) HB12.out, HO4.out.apart, HO4.out.max⟩)
    clear HO4
    have hol := own_len L lost n
    have HS := Lib.hid (sums_any (some ⟨G, 0, none⟩) d L.length n ((ownR L lost n).take d) w4 (by rw [List.length_take]; omega) (by have := HOw.out.C (m := d) (by omega); rwa [List.length_take, Nat.min_eq_left (by omega)] at this) (by omega) (good_take HG.out) (by rw [List.length_take]; omega) hnl)
    clear hol
    go_wp2_with fail
    refine HS.out.mono ?_
    rintro e w5 ⟨vp, vq, rfl, hp5, hq5, hpq, hb5⟩
    have HPQ := Lib.hid hpq
    have hbes : ∀ (v : Value) (r : List Int), BR w5 w4.heap.size v r → Beside w5 w.heap.size hs v r := fun v r hv => ⟨own_weaken hv hge4, fun j g k hj hk h3 => by
      have h4 := (List.getElem?_eq_some_iff.1 hj).1
      have h5 := HOw.out.len
      have h6 := own_lt (HOw.out.row j g _ hj (List.getElem?_eq_getElem (by omega))) k hk
      have h7 := own_base hv k h3
      omega⟩
    have F5 := Lib.hid (show FS w w5 G hs (ownR L lost n) vp (sumP ((ownR L lost n).take d) n) vq (sumQ ((ownR L lost n).take d) n) vg gone from ⟨HB4.out.trans (hb5.mono HB4.out.size), HOw.out.below hb5, hbes _ _ hp5, hbes _ _ hq5, pw_own_below HG4.out hb5⟩)
    clear hbes hp5 hq5 hpq hb5 HOw HG4 HS HB4
    obtain ⟨hD, hdi⟩ := F5.out.O.get (i := d) (by rw [own_len]; omega)
    obtain ⟨hE, hei⟩ := F5.out.O.get (i := d + 1) (by rw [own_len]; omega)
    have HDI := Lib.hid hdi
    have HEI := Lib.hid hei
    clear hdi hei
    have hdl : d < L.length := by omega
    have hel : d + 1 < L.length := by omega
    have hB1 : Byt 1 := ⟨by omega, by omega⟩
    have HBy1 := Lib.hid hB1
    clear hB1
    have hRD := Lib.hid (Tw.good_row HG.out (i := d) (by rw [own_len]; omega))
    have hRE := Lib.hid (Tw.good_row HG.out (i := d + 1) (by rw [own_len]; omega))
    have HSP := Lib.hid (show (sumP ((ownR L lost n).take d) n).length = n ∧ Bytes (sumP ((ownR L lost n).take d) n) from ⟨sumP_len _ _, bytes_sumP _ _ (fun q hq => (good_take HG.out q hq).2)⟩)
    have HSQ := Lib.hid (show (sumQ ((ownR L lost n).take d) n).length = n ∧ Bytes (sumQ ((ownR L lost n).take d) n) from ⟨sumQ_len _ _, bytes_sumQ _ _ (fun q hq => (good_take HG.out q hq).2)⟩)
    have hcd := F5.out.O.cell HDI.out
    have HrowD := Lib.hid (fun (w' : World) (hO : Out w' w.heap.size G hs (ownR L lost n)) => (show BR w' w.heap.size hD (row (ownR L lost n) d) from by rw [row_lt (by rw [own_len]; omega)]; exact hO.row d hD _ HDI.out (List.getElem?_eq_getElem _)))
    have HrowE := Lib.hid (fun (w' : World) (hO : Out w' w.heap.size G hs (ownR L lost n)) => (show BR w' w.heap.size hE (row (ownR L lost n) (d + 1)) from by rw [row_lt (by rw [own_len]; omega)]; exact hO.row (d + 1) hE _ HEI.out (List.getElem?_eq_getElem _)))
    go_wp2_with fail
    refine (add_any F5.out.B F5.out.P.1 (HrowD.out _ F5.out.O) (fun k h => F5.out.P.2 d hD k HDI.out h) (by rw [hRD.out.1, HSP.out.1]; exact Nat.le_refl _) (by rw [hRD.out.1]; exact hnl) HSP.out.2 hRD.out.2 HBy1.out).mono ?_
    rintro e w6 ⟨rfl, p6, b6, k6⟩
    have F6 := Lib.hid (fs_addP F5.out HPQ.out b6 k6 p6)
    clear p6 b6 k6 F5 hcd
    have hce := F6.out.O.cell HEI.out
    go_wp2_with fail
    refine (add_any F6.out.B F6.out.Q.1 (HrowE.out _ F6.out.O) (fun k h => F6.out.Q.2 (d + 1) hE k HEI.out h) (by rw [hRE.out.1, HSQ.out.1]; exact Nat.le_refl _) (by rw [hRE.out.1]; exact hnl) HSQ.out.2 hRE.out.2 HBy1.out).mono ?_
    rintro e w7 ⟨rfl, q7, b7, k7⟩
    have F7 := Lib.hid (fs_addQ F6.out HPQ.out b7 k7 q7)
    have HP7 := Lib.hid (show (addR (sumP ((ownR L lost n).take d) n) (row (ownR L lost n) d) 1).length = n ∧ Bytes (addR (sumP ((ownR L lost n).take d) n) (row (ownR L lost n) d) 1) from good_add HSP.out hRD.out.2 HBy1.out)
    have HQ7 := Lib.hid (show (addR (sumQ ((ownR L lost n).take d) n) (row (ownR L lost n) (d + 1)) 1).length = n ∧ Bytes (addR (sumQ ((ownR L lost n).take d) n) (row (ownR L lost n) (d + 1)) 1) from good_add HSQ.out hRE.out.2 HBy1.out)
    clear q7 b7 k7 F6 hce
    have HX := Lib.hid (show fixR L lost = parR (dataR (ownR L lost n) (gone.map Int.toNat) d (addR (sumP ((ownR L lost n).take d) n) (row (ownR L lost n) d) 1) (addR (sumQ ((ownR L lost n).take d) n) (row (ownR L lost n) (d + 1)) 1)) (gone.map Int.toNat) d n from by
      have h1 : L.length - 2 = d := by have := HD.out; omega
      unfold fixR
      rw [← HN.out, h1, HGone.out])
    generalize addR (sumP ((ownR L lost n).take d) n) (row (ownR L lost n) d) 1 = p at F7 HP7 HX
    generalize addR (sumQ ((ownR L lost n).take d) n) (row (ownR L lost n) (d + 1)) 1 = q at F7 HQ7 HX
    have hol := own_len L lost n
    generalize ownR L lost n = R at F7 HX HG hol
    have HOL := Lib.hid hol
    clear hol HrowD HrowE HSP HSQ hRD hRE HDI HEI
    obtain ⟨Ag, cg, rfl⟩ := own_slice F7.out.g
    have HL2 := Lib.hid (show R.length = d + 2 from by rw [HOL.out, HD.out])
    have HWant := Lib.hid HX.out.symm
    clear HX HGone HN
    rcases GO.out with rfl | ⟨a, rfl, ha⟩ | ⟨a, b, rfl, hab, hbL⟩
    · clear GO GA
      go_wp2_with fail
      go_step3
      exact ⟨rfl, JJ_of rfl (JF_of F7.out HG.out HL2.out HWant.out)⟩
    · clear GO GA
      obtain ⟨g, e, hx⟩ := gone_cell F7.out.g 0 (by simp) (a : Int) rfl
      subst e
      by_cases had : d ≤ a
      · go_wp2_with fail
        go_step3
        exact ⟨rfl, JJ_of rfl (JF_of F7.out HG.out HL2.out (by rw [← HWant.out]; simp [dataR, had]))⟩
      · obtain ⟨hA, hai⟩ := F7.out.O.get (i := a) (by rw [HOL.out]; exact ha)
        have HAI := Lib.hid hai
        have hca := F7.out.O.cell HAI.out
        clear hai
        go_wp2_with fail
        refine (out_add F7.out.B F7.out.O HAI.out F7.out.P (by rw [(Tw.good_row HG.out (by rw [HOL.out]; exact ha)).1, HP7.out.1]; exact Nat.le_refl _) (by rw [HP7.out.1]; exact hnl) (Tw.good_row HG.out (by rw [HOL.out]; exact ha)).2 HP7.out.2 HBy1.out).mono ?_
        rintro e w8 ⟨rfl, O8, B8, K8⟩
        have F8 := Lib.hid (F7.out.after HAI.out O8 B8 K8)
        clear O8 B8 K8
        have G8 := Lib.hid (good_set HG.out (i := a) (good_add (Tw.good_row HG.out (by rw [HOL.out]; exact ha)) HP7.out.2 HBy1.out))
        have W8 := Lib.hid (show parR (R.set a (addR (row R a) p 1)) (([(a : Int)] : List Int).map Int.toNat) d n = fixR L lost from by rw [← HWant.out]; simp [dataR, had])
        go_wp2_with fail
        go_step3
        simp only [Exit.then]
        apply_assumption
        refine Code.wp_mono (fun e a w h => ?_) (HT.out _ _ ?_)
        · cases e <;> first | exact h | exact (h : False).elim
        · exact JJ_of rfl (JF_of F8.out G8.out (by rw [List.length_set]; exact HL2.out) W8.out)
    · clear GO GA
      obtain ⟨g, e, hx⟩ := gone_cell F7.out.g 0 (by simp) (a : Int) rfl
      subst e
      obtain ⟨g', e, hy⟩ := gone_cell F7.out.g 1 (by simp) (b : Int) rfl
      cases e
      by_cases had : d ≤ a
      · go_wp2_with fail
        go_step3
        exact ⟨rfl, JJ_of rfl (JF_of F7.out HG.out HL2.out (by rw [← HWant.out]; simp [dataR, had]))⟩
      · have haL : a < L.length := by omega
        obtain ⟨hA, hai⟩ := F7.out.O.get (i := a) (by rw [HOL.out]; exact haL)
        have HAI := Lib.hid hai
        have hca := F7.out.O.cell HAI.out
        clear hai
        have HRA := Lib.hid (Tw.good_row HG.out (i := a) (by rw [HOL.out]; exact haL))
        by_cases hbd : b < d
        · have hxd : w7.drew.cell? ⟨g, 0, none⟩ = some (.int .i64 (a : Int)) := hx
          have hyd : w7.drew.cell? ⟨g, 1, none⟩ = some (.int .i64 (b : Int)) := hy
          have HTwo := Lib.hid (two_any (a := a) (b := b) F7.out.drew (by rw [HOL.out]; exact haL) (by rw [HOL.out]; exact hbL) (by omega) (by rw [HOL.out]; exact m2) HG.out HP7.out HQ7.out hnl)
          rw [HOL.out] at HTwo
          go_wp2_with fail
          go_region_held3 (fun w' => w'.cell? ⟨g, 0, none⟩ = some (.int .i64 (a : Int)) ∧ w'.cell? ⟨g, 1, none⟩ = some (.int .i64 (b : Int)))
            (first | with_reducible exact ⟨hxd, hyd⟩ | with_reducible exact ⟨hx8, hy8⟩)
            ((go_at_call 36; (with_reducible refine HTwo.out.mono ?_); rintro e w8 ⟨rfl, h8⟩; have F8 := Lib.hid h8; have hx8 := gone_at F8.out.g 0 (by simp) (a : Int) rfl; have hy8 := gone_at F8.out.g 1 (by simp) (b : Int) rfl; clear h8))
          have G8 := Lib.hid (good_two HG.out (by rw [HOL.out]; exact haL) (by rw [HOL.out]; exact hbL) HP7.out HQ7.out)
          have W8 := Lib.hid (show parR (twoR R a b p q) (([(a : Int), (b : Int)] : List Int).map Int.toNat) d n = fixR L lost from by rw [← HWant.out]; simp [dataR, had, hbd])
          clear hx8 hy8 hxd hyd hx hy hca
          go_wp2_with fail
          go_step3
          simp only [Exit.then]
          apply_assumption
          refine Code.wp_mono (fun e a w h => ?_) (HT.out _ _ ?_)
          · cases e <;> first | exact h | exact (h : False).elim
          · exact JJ_of rfl (JF_of F8.out G8.out (by rw [two_len]; exact HL2.out) W8.out)
        · by_cases hbe : b = d
          · have hbI : (b : Int) = (d : Int) := by omega
            have hxd : w7.drew.cell? ⟨g, 0, none⟩ = some (.int .i64 (a : Int)) := hx
            have hcd : w7.drew.cell? ⟨G, a, none⟩ = some hA := hca
            have hne : expI a ≠ 0 := by
              intro h
              exact pw_ne_zero a (by unfold expI at h; omega)
            have HNE := Lib.hid hne
            clear hne
            have ha255 : a < 255 := by omega
            go_wp2_with fail
            go_region_held3 (fun w' => w'.cell? ⟨g, 0, none⟩ = some (.int .i64 (a : Int)) ∧ w'.cell? ⟨G, a, none⟩ = some hA)
              (first | with_reducible exact ⟨hxd, hcd⟩ | with_reducible exact ⟨hx8, hc8⟩ | with_reducible exact ⟨hx9, hc9⟩ | with_reducible exact ⟨hxA, hcA⟩)
              (first
                | (go_at_call 38; (with_reducible refine (exp_any a ha255 _).mono ?_); rintro e w8 ⟨rfl, hb8⟩; have F8 := Lib.hid (F7.out.drew.below hb8); have hx8 := gone_at F8.out.g 0 (by simp) (a : Int) rfl; have hc8 := F8.out.O.cell HAI.out)
                | (go_at_call 37; (with_reducible refine (inv_any (expI a) (byt_exp a) HNE.out _).mono ?_); rintro e w9 ⟨rfl, hb9⟩; have F9 := Lib.hid (F8.out.below hb9); have hx9 := gone_at F9.out.g 0 (by simp) (a : Int) rfl; have hc9 := F9.out.O.cell HAI.out)
                | (go_at_call 35; (with_reducible refine (out_add F9.out.B F9.out.O HAI.out F9.out.Q (by rw [HRA.out.1, HQ7.out.1]; exact Nat.le_refl _) (by rw [HQ7.out.1]; exact hnl) HRA.out.2 HQ7.out.2 (byt_inv (byt_exp a))).mono ?_); rintro e wA ⟨rfl, OA, BA, KA⟩; have FA := Lib.hid (F9.out.after HAI.out OA BA KA); have hxA := gone_at FA.out.g 0 (by simp) (a : Int) rfl; have hcA := FA.out.O.cell HAI.out; clear OA BA KA))
            have G8 := Lib.hid (good_set HG.out (i := a) (good_add HRA.out HQ7.out.2 (byt_inv (byt_exp a))))
            have W8 := Lib.hid (show parR (R.set a (addR (row R a) q (invI (expI a)))) (([(a : Int), (b : Int)] : List Int).map Int.toNat) d n = fixR L lost from by rw [← HWant.out]; simp [dataR, had, hbd, hbe])
            clear hxA hcA hx9 hc9 hx8 hc8 hxd hcd hx hy hca
            go_wp2_with fail
            go_step3
            simp only [Exit.then]
            apply_assumption
            refine Code.wp_mono (fun e a w h => ?_) (HT.out _ _ ?_)
            · cases e <;> first | exact h | exact (h : False).elim
            · exact JJ_of rfl (JF_of FA.out G8.out (by rw [List.length_set]; exact HL2.out) W8.out)
          · have hbn : ¬ ((b : Int) = (d : Int)) := by omega
            go_wp2_with fail
            refine (out_add F7.out.B F7.out.O HAI.out F7.out.P (by rw [HRA.out.1, HP7.out.1]; exact Nat.le_refl _) (by rw [HP7.out.1]; exact hnl) HRA.out.2 HP7.out.2 HBy1.out).mono ?_
            rintro e w8 ⟨rfl, O8, B8, K8⟩
            have F8 := Lib.hid (F7.out.after HAI.out O8 B8 K8)
            clear O8 B8 K8
            have G8 := Lib.hid (good_set HG.out (i := a) (good_add HRA.out HP7.out.2 HBy1.out))
            have W8 := Lib.hid (show parR (R.set a (addR (row R a) p 1)) (([(a : Int), (b : Int)] : List Int).map Int.toNat) d n = fixR L lost from by rw [← HWant.out]; simp [dataR, had, hbd, hbe])
            go_wp2_with fail
            go_step3
            simp only [Exit.then]
            apply_assumption
            refine Code.wp_mono (fun e a w h => ?_) (HT.out _ _ ?_)
            · cases e <;> first | exact h | exact (h : False).elim
            · exact JJ_of rfl (JF_of F8.out G8.out (by rw [List.length_set]; exact HL2.out) W8.out)
theorem fix_false (A A' : Option Addr) (c c' : Nat) (L : List (List Int)) (lost : List Int) (w : World) (hm : L.length ≤ 1000000) (hm' : lost.length ≤ 1000000) (hr : Kd.C (Kd.slice 5 (Kd.int .u8)) w A L.length L) (ho : Kd.C (Kd.int .i64) w A' lost.length lost) (hc : L.length ≤ c) (hc' : lost.length ≤ c')
    (hmay : mayB L lost = false) :
    Calls Try.prog 22 #[.slice A L.length c, .slice A' lost.length c'] w fun e w' => e = .returned (.tuple #[.slice none 0 0, .bool false]) ∧ Below w.heap.size w w' := by
  have HM := Lib.hid (may_any A A' c c' L lost w hm hm' hr ho hc hc')
  rw [hmay] at HM
  clear hr ho hc hc' hmay
  go_enter Try.func22, Try.ntmps22
  go_wp2
  refine wp_scope_straight ?_
  go_wp2_with fail
  refine HM.out.mono ?_
  rintro e w1 ⟨r, rfl, _, hb1⟩
  go_wp2_with fail
  rw [Exit.noGoto_ret]
  exact bodyPost_ret (results_tmp2 rfl _ _ _) rfl ⟨rfl, hb1⟩
theorem fix_any (A0 : Option Addr) (c0 : Nat) (l0 : List (List Int)) (A1 : Option Addr) (c1 : Nat) (l1 : List Int) (r1 : List (List Int)) (r2 : Bool) (w : World) (hr0 : Kd.C (Kd.slice 5 (Kd.int .u8)) w A0 l0.length l0) (hc0 : l0.length ≤ c0) (hr1 : Kd.C (Kd.int .i64) w A1 l1.length l1) (hc1 : l1.length ≤ c1) (h : fixF l0 l1 = some (r1, r2)) :
    Calls Try.prog 22 #[.slice A0 l0.length c0, .slice A1 l1.length c1] w fun e w' => ∃ v0_ : Value, e = .returned (.tuple #[v0_, .bool r2]) ∧ Kd.N (Kd.slice 5 (Kd.int .u8)) 22 w' w.heap.size (fun k_ => (w.heap.size ≤ k_)) v0_ r1 ∧ Below w.heap.size w w' := by
  unfold fixF at h
  by_cases hc : (∀ r ∈ l0, ∀ x ∈ r, Byt x) ∧ (∀ r ∈ l0, r.length ≤ 1000000) ∧ l1.length ≤ 1000000 ∧ l0.length ≤ 1000000
  · rw [if_pos hc] at h
    by_cases hmay : mayB l0 l1 = true
    · rw [if_pos hmay] at h
      cases h
      exact fix_true A0 A1 c0 c1 l0 l1 w hc.2.2.2 hc.2.2.1 hr0 hr1 hc0 hc1 hc.1 hc.2.1 hmay
    · rw [if_neg hmay] at h
      cases h
      refine (fix_false A0 A1 c0 c1 l0 l1 w hc.2.2.2 hc.2.2.1 hr0 hr1 hc0 hc1 (Bool.eq_false_iff.2 hmay)).mono ?_
      rintro e w' ⟨rfl, hb⟩
      exact ⟨_, rfl, Kd.N_nil _ _ _ _ _, hb⟩
  · rw [if_neg hc] at h
    cases h
end Go.Proofs.Ytdbnladpogpiiaa.Fw
