/-
  Parts of a proof, laid together by a program of mine (pack.py): Wr.
-/
import Derived.Test.YtibileffpgnjhaaZB41
namespace Go.Proofs.Ytibileffpgnjhaa.Base
open Go.RowKit Go.Maps Go.Proofs.YtibileffpgnjhaaW.PrintWords Go.Proofs.YtibileffpgnjhaaW.PrintLast
open Go.Proofs.Ytibileffpgnjhaa.Fld Go.Proofs.Ytibileffpgnjhaa.Pl Go.Proofs.Ytibileffpgnjhaa.Kp Go.Proofs.Ytibileffpgnjhaa.Fw Go.Proofs.Ytibileffpgnjhaa.Co Go.Proofs.Ytibileffpgnjhaa.Cw
set_option linter.unusedSimpArgs false
set_option linter.unusedVariables false
/-- a row that may be, by the document: the call's own -/
theorem rencode_own (d : Int) (m : Nat) (s u a : Int) (A : Option Addr) (c n : Nat) (es : List Ent) (w : World) (hd : d = m + 2) (hm : 4 ≤ m ∧ m ≤ 6) (hs : 1 ≤ s ∧ s ≤ 1099511627776) (hu : 0 ≤ u ∧ u ≤ 255) (ha : 0 ≤ a ∧ a ≤ 255) (hn : n = es.length) (hl : n ≤ m) (hwf : ∀ e ∈ es, e.Wf) (hok : ∀ e ∈ es, OkE e) (hc : n ≤ c) (hs0 : Sl w 0 w.heap.size 19 A (es.map Ent.arr)) :
    Calls Try.prog 14 #[.int .i64 d, .int .i64 s, .int .i64 u, .int .i64 a, .slice A n c] w fun x w' => ∃ A' c' T, x = .returned (.tuple #[.slice A' (m + 2) c', .int .i64 0]) ∧ m + 2 ≤ c' ∧ Rws w' w.heap.size (.slice A' (m + 2) c') T ∧ T.map (·.2.2) = fullE s u a es m ∧ Below w.heap.size w w' := by
  subst hn
  refine (rencode_all d s u a A c es w ⟨by omega, by omega⟩ (by omega) hwf hc hs0).mono ?_
  rintro x w' ⟨hx, hb⟩
  rcases hx with ⟨_, n, A', c', T, hd', rfl, hc', hT, hL⟩ | ⟨hno, _⟩
  · obtain rfl : n = m := by omega
    exact ⟨A', c', T, rfl, hc', hT, hL, hb⟩
  · exact absurd ⟨⟨by omega, by omega, hs.1, hs.2, hu.1, hu.2, ha.1, ha.2, by omega⟩, hok⟩ hno
theorem Rws.lessR {w : World} {base base' : Nat} {v : Value} {T : List Hr} (h : Rws w base v T) (hb : base' ≤ base) : Rws w base' v T := by
  refine ⟨⟨h.1.1, ?_⟩, h.2⟩
  rcases h.1.2 with h0 | ⟨g, cap, cur, rfl, h1, h2, h3⟩
  · exact .inl h0
  · exact .inr ⟨g, cap, cur, rfl, by omega, h2, h3⟩
theorem Rws.some_of {w : World} {base : Nat} {A : Option Addr} {n c : Nat} {T : List Hr} (h : Rws w base (.slice A n c) T) (hn : 0 < n) : ∃ g, A = some ⟨g, 0, none⟩ ∧ base ≤ g ∧ g < w.heap.size := by
  rcases h.1.2 with ⟨h0, _⟩ | ⟨g, cap, cur, h0, h1, h2, _⟩
  · injection h0 with _ h0 _
    omega
  · injection h0 with h0 _ _
    exact ⟨g, h0, h1, (Array.getElem?_eq_some_iff.1 h2).1⟩
theorem Rws.set {w : World} {base g n c : Nat} {T : List Hr} (h : Rws w base (.slice (some ⟨g, 0, none⟩) n c) T) (k : Nat) (hk : k < n) (t : Hr) (h1 : t.2.2.length ≤ t.2.1) (h2 : t.2.2.length ≤ 1000000) (h3 : Sl w 0 w.heap.size 1 t.1 (By t.2.2)) (h4 : ∀ a, t.1 = some a → a.block < w.heap.size ∧ a.block ≠ g) :
    Rws (w.setCell ⟨g, k, none⟩ t.cell) base (.slice (some ⟨g, 0, none⟩) n c) (T.set k t) ∧ w.cell? ⟨g, k, none⟩ ≠ none ∧ w.frozen? ⟨g, k, none⟩ = false := by
  have hn : n = T.length := by
    obtain ⟨A', c', hv, _⟩ := h.form
    injection hv
  subst hn
  have h0 := h.1
  have hl : (T.map Hr.cell).length = T.length := List.length_map ..
  refine ⟨⟨?_, fun x hx => ?_⟩, ?_, h0.frozenAt _⟩
  · have := (h0.stored k t.cell).1
    rw [List.length_set, List.map_set]
    exact this
  · have keep : ∀ x : Hr, (x.2.2.length ≤ x.2.1 ∧ x.2.2.length ≤ 1000000 ∧ Sl w 0 w.heap.size 1 x.1 (By x.2.2) ∧ ∀ a, x.1 = some a → a.block < w.heap.size ∧ a.block ≠ g) → x.2.2.length ≤ x.2.1 ∧ x.2.2.length ≤ 1000000 ∧ Sl (w.setCell ⟨g, k, none⟩ t.cell) 0 (w.setCell ⟨g, k, none⟩ t.cell).heap.size 1 x.1 (By x.2.2) ∧ ∀ a, x.1 = some a → a.block < (w.setCell ⟨g, k, none⟩ t.cell).heap.size ∧ some a.block ≠ (Value.slice (some ⟨g, 0, none⟩) T.length c).ownBlock := fun x hx => by
      refine ⟨hx.1, hx.2.1, ?_, fun a ha => ⟨by rw [World.size_setCell]; exact (hx.2.2.2 a ha).1, fun e => (hx.2.2.2 a ha).2 (by simpa [Value.ownBlock] using e)⟩⟩
      rw [World.size_setCell]
      exact hx.2.2.1.keep (fun a ha => Below.heap_setCell _ _ _ _ (by show a.block ≠ g; exact (hx.2.2.2 a ha).2))
    rcases List.mem_or_eq_of_mem_set hx with hm | hm
    · obtain ⟨k1, k2, k3, k4⟩ := h.2 x hm
      exact keep x ⟨k1, k2, k3, fun a ha => ⟨(k4 a ha).1, fun e => (k4 a ha).2 (by simp [Value.ownBlock, e])⟩⟩
    · rw [hm]; exact keep t ⟨h1, h2, h3, h4⟩
  · rw [h0.cellAt k (by omega), List.getElem?_eq_getElem (by omega)]; simp
theorem Ow.setBy {w : World} {base g n c : Nat} {bs : List Int} (h : Ow w base 5 1 (.slice (some ⟨g, 0, none⟩) n c) (By bs)) (hn : n = bs.length) (i : Nat) (hi : i < n) (v : Int) :
    Ow (w.setCell ⟨g, i, none⟩ (.int .u8 v)) base 5 1 (.slice (some ⟨g, 0, none⟩) n c) (By (bs.set i v)) ∧ w.cell? ⟨g, i, none⟩ = some (.int .u8 (at_ bs i)) ∧ w.frozen? ⟨g, i, none⟩ = false := by
  subst hn
  have h0 : w.ownsRow base 5 1 (.slice (some ⟨g, 0, none⟩) bs.length c) bs.length (bs.map (Value.int .u8)) := by
    have := h
    unfold Ow at this
    rwa [By.len, flat_by] at this
  refine ⟨?_, ?_, h0.frozenAt _⟩
  · have h2 := (h0.stored i (.int .u8 v)).1
    unfold Ow
    rw [By.len, List.length_set, flat_by, List.map_set]
    exact h2
  · rw [h0.cellAt i (by omega), List.getElem?_map, List.getElem?_eq_getElem hi]
    unfold at_
    simp [hi]
def hitB (ys : List Int) (j : Nat) : Bool := (List.range j).any fun t => at_ ys t != 0
theorem hitB_succ (ys : List Int) (j : Nat) : hitB ys (j + 1) = (hitB ys j || (at_ ys j != 0)) := by
  unfold hitB
  rw [List.range_succ, List.any_append]
  simp
theorem hitB_ne {bs ys : List Int} {n : Nat} (hn : n ≤ bs.length) (hb : Bytes bs) (hy : Bytes ys) (h : hitB ys n = true) : Pl.part bs ys none n ≠ bs := fun e => by
  unfold hitB at h
  obtain ⟨t, ht, h0⟩ := List.any_eq_true.1 h
  have ht' : t < n := by simpa using ht
  have h1 : at_ (Pl.part bs ys none n) t = at_ bs t := by rw [e]
  rw [part_at _ _ _ _ _ (by omega), if_pos ht'] at h1
  have h1 : xorI (at_ bs t) (at_ ys t) = at_ bs t := h1
  have h2 := congrArg (xorI (at_ bs t)) h1
  rw [xorI_self_left _ (byt_at hy t), xorI_self] at h2
  simp [h2] at h0
theorem part_bytes {bs ys : List Int} (hb : Bytes bs) (hy : Bytes ys) (n : Nat) : Bytes (Pl.part bs ys none n) := fun x hx => by
  obtain ⟨i, hi, rfl⟩ := List.getElem_of_mem hx
  have : (Pl.part bs ys none n)[i] = at_ (Pl.part bs ys none n) i := by unfold at_; simp [hi]
  rw [part_len] at hi
  rw [this, part_at _ _ _ _ _ hi]
  split
  · exact byt_xor (byt_at hb i) (byt_at hy i)
  · exact byt_at hb i
/-- pages of a codeword of which one row was turned -/
theorem dec_turned {u a most : Int} {L : List (List Int)} {m k : Nat} {P : List Int} {ps : List Pg} {b : List Int} (hC : Cd.Code L 48 m) (hm : 4 ≤ m ∧ m ≤ 6) (hP : Pc.Ok 1 (m + 2) P) (hk : k < m + 2) (hkP : P.contains (k : Int) = false) (h0 : (P.length : Int) ≤ most) (h2 : most ≤ 2) (hq : ps.map qOf = pagesQ (L.set k b) P)
    (h48 : b.length = 48) (hb : OkB b) (hne : b ≠ row L k) : ps.length = m + 2 ∧ decP u a ps most = (5, none) ∧ ∀ p ∈ ps, I64 p.1 := by
  have lL := hC.len
  have hin : ∀ x ∈ P, 0 ≤ x := fun x hx => (hP.2.1 x hx).1
  obtain ⟨hl, hat⟩ := pages_at hq hin
  rw [List.length_set] at hl
  have hk' : k < ps.length := by omega
  have hpk : qOf ps[k] = (2, b) := by
    have := hat k hk'
    rw [if_neg (by rw [hkP]; simp), Tw.row_set_self (by omega)] at this
    exact this
  have hps0 : (ps.set k ((2, none, 0, row L k) : Pg)).map qOf = pagesQ L P := by
    apply List.ext_getElem?
    intro j
    by_cases hj : j < L.length
    · rw [pagesQ_at hin hj, List.getElem?_map]
      by_cases e : k = j
      · subst e
        rw [List.getElem?_set_self (by omega), if_neg (by rw [hkP]; simp)]
        rfl
      · rw [List.getElem?_set_ne e, List.getElem?_eq_getElem (by omega)]
        have := hat j (by omega)
        rw [Tw.row_set_ne e] at this
        show some (qOf ps[j]) = _
        rw [this]
    · rw [List.getElem?_eq_none (by rw [List.length_map, List.length_set]; omega), List.getElem?_eq_none (by rw [pagesQ_len]; omega)]
  have e : (ps.set k ((2, none, 0, row L k) : Pg)).set k ps[k] = ps := by
    rw [List.set_set]
    exact List.set_getElem_self hk'
  have := dec_wrong (u := u) (a := a) (most := most) (ps := ps.set k ((2, none, 0, row L k) : Pg)) (p' := ps[k]) hC hm hP hk hkP h0 h2 hps0 hpk h48 hb hne
  rw [e] at this
  exact this
set_option maxRecDepth 100000 in
set_option maxHeartbeats 8000000 in
theorem wrong_walk (a1 a3 : Int) (A A2 : Option Addr) (c cY N M : Nat) (es : List Ent) (ys : List Int) (w : World) (h1 : I64 a1) (h3 : I64 a3) (hN : N = es.length) (hc : N ≤ c) (hm : c ≤ maxLen) (hs : Sl w 0 w.heap.size 19 A (es.map Ent.arr)) (hwf : ∀ e ∈ es, e.Wf)
    (hM : M = ys.length) (hcY : M ≤ cY) (hmY : cY ≤ maxLen) (hsY : Sl w 0 w.heap.size 1 A2 (By ys)) (hys : Bytes ys) :
    Calls Try.prog 5 #[.slice A N c, .int .i64 a1, .slice A2 M cY, .int .i64 a3] w fun e w' => e = .returned (.bool true) ∧ Below w.heap.size w w' := by
  obtain ⟨k, hk, hw1⟩ := w11_lt a1 7 h1 (by omega) (by omega)
  obtain ⟨j, hj, hw3⟩ := w11_lt a3 14 h3 (by omega) (by omega)
  obtain ⟨es1, hes1⟩ : ∃ es1, es1 = (es.take 5).map goodE := ⟨_, rfl⟩
  obtain ⟨hwf1, hok1⟩ := okw_good hes1 hwf
  have hl1 : es1.length ≤ 5 := by rw [hes1, List.length_map, List.length_take]; omega
  have hsl := fun (W : World) hsW => slots_own A c 5 N 5 es es1 W rfl hes1 (by omega) hN hc hm hwf hsW
  clear hes1 hwf
  generalize hn1 : es1.length = n1 at hl1 hsl
  have henc := fun (A' : Option Addr) (c' : Nat) (W : World) hcc hsW => rencode_own 7 5 9 4 1 A' c' n1 es1 W (by omega) (by omega) (by omega) (by omega) (by omega) hn1.symm hl1 hwf1 hok1 hcc hsW
  obtain ⟨fa1, fa2⟩ := full_fit 9 4 1 es1 5 hwf1
  obtain ⟨L, hL⟩ : ∃ L, L = fullE 9 4 1 es1 5 := ⟨_, rfl⟩
  have hC : Cd.Code L 48 5 := by rw [hL]; exact code_full 9 4 1 es1 5 hwf1
  rw [← hL] at fa1 fa2 henc
  obtain ⟨bs, hbs⟩ : ∃ bs, bs = row L k := ⟨_, rfl⟩
  have gb := Tw.good_row hC.good (i := k) (by rw [hC.len]; omega)
  rw [← hbs] at gb
  clear hL hn1 hwf1 hok1
  replace hbs := hide hbs
  replace hC := hide hC
  replace fa1 := hide fa1
  replace fa2 := hide fa2
  replace hN := hide hN
  replace hM := hide hM
  replace hys := hide hys
  have gbl := gb.1
  replace gb := hide gb
  go_enter Try.func5, Try.ntmps5
  go_wp2_with fail
  refine (known_any _).mono ?_
  rintro e w1 ⟨rfl, hb1⟩
  by_cases hl : N ≤ 8
  · have hlI : (N : Int) ≤ 8 := by omega
    have hslw := hsl _ ((hs.below hb1).more hb1.size)
    go_wp2_with fail
    (with_reducible refine hslw.mono ?_)
    rintro x w2 ⟨A3, c3, rfl, hc3, ho2, hb2'⟩
    have hb2 := hb1.trans (hb2'.mono hb1.size)
    have hen := henc A3 c3 w2 hc3 ((ho2.sl (Ent.sized _) (by omega)).less (Nat.zero_le _))
    clear hslw ho2 hb2' hsl
    go_wp2_with fail
    (with_reducible refine hen.mono ?_)
    rintro x w3 ⟨A4, c4, T, rfl, hc4, hT, hTL, hb3'⟩
    have hb3 := hb2.trans (hb3'.mono hb2.size)
    have hT := hT.lessR hb2.size
    clear hen hb3' henc
    obtain ⟨gT, rfl, hgTb, hgTl⟩ := hT.some_of (by omega)
    have hTl : T.length = 7 := by have := congrArg List.length hTL; rwa [List.length_map, unhide fa1] at this
    obtain ⟨hTn, hTc, hRC⟩ := RC.of_rws hT (by omega)
    rw [hTL] at hRC
    obtain ⟨ad, A0, c0, ea, hcell, hl0, hs0⟩ := hRC.at_ k (by omega)
    injection ea with ea
    subst ea
    rw [← unhide hbs] at hcell hl0 hs0
    rw [gbl] at hcell hl0
    rw [addr_nxt, Nat.zero_add] at hcell
    obtain ⟨A5, c5, w5, hrun, ho5, hg5, hc5⟩ := run_append_by (w3.alloc (.cells #[] 5)) w3.heap.size 0 (.slice (some ⟨w3.heap.size, 0, none⟩) 0 0) [] bs (Ow.empty w3 _ _) rfl 0 w3.heap.size A0 48 c0 (hs0.alloc (Nat.le_refl _) _) gbl (by omega) (by simp) 47
    rw [Nat.zero_add, List.nil_append] at ho5
    rw [Nat.zero_add] at hrun hc5
    have hb35 : Below w3.heap.size w3 w5 := below_grown ((Below.refl _ _).alloc (Nat.le_refl _) _) hg5 (by simp) (fun k ek => by simp only [Value.ownBlock, Option.some.injEq] at ek; omega)
    obtain ⟨g, rfl, hgb, hgl, hjunk⟩ := ho5.some_of (by omega)
    clear hjunk
    have hz35 := hb35.size
    have hkI : (k : Int) < 5 + 2 := by omega
    have ho5' : Ow w5 w3.heap.size 5 1 (.slice (some ⟨g, 0, none⟩) 48 c5) (By (Pl.part bs ys none 0)) := by rw [part_zero]; exact ho5
    clear hg5 hRC hl0 hs0 hTn hTc ho5
    replace hT := hide hT
    replace hTL := hide hTL
    replace hTl := hide hTl
    replace gbl := hide gbl
    go_wp2_with fail
    refine (hw1 _).mono ?_
    rintro e wq ⟨rfl, rfl⟩
    go_wp2_with (at_builtin; refine wpList_step (fun K hK => step_append_ex (o := ⟨some 37, _, _, _, _, _⟩) (.tmp 32) (.tmp 36) 47 rfl (by rfl) ?_); (with_reducible refine app_ex hrun ?_ (hK _ _ ?_)); rfl)
    go_loopw [13, 14] (fun s13 s14 wr => ∃ i : Nat, i ≤ M ∧ i ≤ 48 ∧ s14 = .int .i64 i ∧ s13 = .bool (hitB ys i) ∧ Ow wr w3.heap.size 5 1 (.slice (some ⟨g, 0, none⟩) 48 c5) (By (Pl.part bs ys none i)) ∧ Below w3.heap.size w3 wr ∧ w5.heap.size ≤ wr.heap.size) (fun _ s14 _ => 48 - (intOf s14).toNat)
    case atStart => exact ⟨0, by omega, by omega, rfl, by simp [hitB], ho5', hb35, Nat.le_refl _⟩
    case round =>
      clear ho5' hb35 hrun
      obtain ⟨i, hiM, hi48, rfl, rfl, ho, hb, hz5⟩ := hrel
      by_cases hlt : i < M ∧ i < 48
      · obtain ⟨hlt1, hlt2⟩ := hlt
        have hlI1 : (i : Int) < M := by omega
        have hlI2 : (i : Int) < 48 := by omega
        have hi0 : (0 : Int) ≤ i := by omega
        have hiy : i < ys.length := by rw [← unhide hM]; exact hlt1
        obtain ⟨bB, oB, rfl, _, hlB, hrB⟩ := hsY.at_ (k := i) (by rw [By.len]; exact hiy)
        have hbw : Below w.heap.size w wr := hb3.trans (hb.mono hb3.size)
        have hcB : wr.cell? ⟨bB, oB + i, none⟩ = some (.int .u8 (at_ ys i)) := by
          have := rd_cell ((rd_below hbw hlB _ _).trans hrB) 0 (by omega)
          rw [Nat.mul_one, Nat.add_zero] at this
          rw [this, at_lt hiy]
          simp [By]
        have hbl := unhide gbl
        have hxor := xor_u8 (byt_at (unhide gb).2 i) (byt_at (unhide hys) i)
        obtain ⟨ho6, hcC, hfC⟩ := ho.setBy (by rw [part_len]; omega) i hlt2 (xorI (at_ bs i) (at_ ys i))
        rw [part_at _ _ _ _ _ (by omega), if_neg (by omega)] at hcC
        have hps := part_set bs ys none i (by omega)
        have ht : term ys none i = at_ ys i := rfl
        rw [ht] at hps
        rw [hps] at ho6
        have hb6 : Below w3.heap.size w3 (wr.setCell ⟨g, i, none⟩ (.int .u8 (xorI (at_ bs i) (at_ ys i)))) := hb.setCell hgb _
        have hcB6 : (wr.setCell ⟨g, i, none⟩ (.int .u8 (xorI (at_ bs i) (at_ ys i)))).cell? ⟨bB, oB + i, none⟩ = some (.int .u8 (at_ ys i)) := by
          rw [World.cell?_of_block (Below.heap_setCell wr ⟨g, i, none⟩ _ bB (by show bB ≠ g; have := hb3.size; omega))]
          exact hcB
        have hhit := hitB_succ ys i
        obtain ⟨x, hx⟩ : ∃ x, x = at_ bs i := ⟨_, rfl⟩
        obtain ⟨y, hy⟩ : ∃ y, y = at_ ys i := ⟨_, rfl⟩
        obtain ⟨hv, hhv⟩ : ∃ hv, hv = hitB ys i := ⟨_, rfl⟩
        rw [← hx, ← hy] at hxor ho6 hb6 hcB6
        rw [← hx] at hcC
        rw [← hy] at hcB
        rw [← hy, ← hhv] at hhit
        rw [← hhv]
        clear hps ht ho hbl hiy hrB hlB hbw
        replace hhit := hide hhit
        replace hx := hide hx
        replace hy := hide hy
        replace hhv := hide hhv
        go_wp2_with fail
        refine start_ (n := 11) (S := fun w' => w'.cell? ⟨g, i, none⟩ = some (.int .u8 x) ∧ w'.frozen? ⟨g, i, none⟩ = false ∧ w'.cell? ⟨bB, oB + i, none⟩ = some (.int .u8 y)) (ds := [10]) #[false, false, false, false, false, false, false, false, false, false, false] (by kernel_rfl) rfl rfl (⟨hcC, hfC, hcB⟩) (fun hHeld => ?_)
        refine pure_ (i := 0) (N := some 48) (v := ?_) (a' := ?_) #[true, false, false, false, false, false, false, false, false, false, false] rfl rfl (by kernel_rfl) (fun _ _ _ h => h) (Or.inl ⟨by rfl, ?_⟩) ?_ ?_
        rotate_left
        · intro w'
          go_simp
          with_reducible rfl
        rotate_left
        · simp only [Act.put, List.setIfInBounds_toArray, List.set_cons_zero, List.set_cons_succ, i64_w, i32_w]
          rfl
        refine pure_ (i := 1) (N := some 49) (v := ?_) (a' := ?_) #[true, true, false, false, false, false, false, false, false, false, false] rfl rfl (by kernel_rfl) (fun _ _ _ h => h) (Or.inl ⟨by rfl, ?_⟩) ?_ ?_
        rotate_left
        · intro w'
          go_simp
          with_reducible rfl
        rotate_left
        · simp only [Act.put, List.setIfInBounds_toArray, List.set_cons_zero, List.set_cons_succ, i64_w, i32_w]
          rfl
        refine pure_ (i := 2) (N := some 50) (v := ?_) (a' := ?_) #[true, true, true, false, false, false, false, false, false, false, false] rfl rfl (by kernel_rfl) (fun _ _ _ h => h) (Or.inl ⟨by rfl, ?_⟩) ?_ ?_
        rotate_left
        · intro w'
          go_simp
          with_reducible rfl
        rotate_left
        · simp only [Act.put, List.setIfInBounds_toArray, List.set_cons_zero, List.set_cons_succ, i64_w, i32_w]
          rfl
        refine take_ (i := 3) (N := some 51) (v := ?_) (a' := ?_) #[true, true, true, true, false, false, false, false, false, false, false] rfl rfl (by kernel_rfl) (fun _ _ _ h => h) (Or.inl ⟨by rfl, ?_⟩) hHeld ?_ ?_
        rotate_left
        · intro w' hs_; obtain ⟨s0, s1, s2⟩ := hs_
          go_simp
          with_reducible rfl
        rotate_left
        · simp only [Act.put, List.setIfInBounds_toArray, List.set_cons_zero, List.set_cons_succ, i64_w, i32_w]
          rfl
        refine pure_ (i := 4) (N := some 52) (v := ?_) (a' := ?_) #[true, true, true, true, true, false, false, false, false, false, false] rfl rfl (by kernel_rfl) (fun _ _ _ h => h) (Or.inl ⟨by rfl, ?_⟩) ?_ ?_
        rotate_left
        · intro w'
          go_simp
          with_reducible rfl
        rotate_left
        · simp only [Act.put, List.setIfInBounds_toArray, List.set_cons_zero, List.set_cons_succ, i64_w, i32_w]
          rfl
        refine pure_ (i := 5) (N := some 53) (v := ?_) (a' := ?_) #[true, true, true, true, true, true, false, false, false, false, false] rfl rfl (by kernel_rfl) (fun _ _ _ h => h) (Or.inl ⟨by rfl, ?_⟩) ?_ ?_
        rotate_left
        · intro w'
          go_simp
          with_reducible rfl
        rotate_left
        · simp only [Act.put, List.setIfInBounds_toArray, List.set_cons_zero, List.set_cons_succ, i64_w, i32_w]
          rfl
        refine pure_ (i := 6) (N := some 54) (v := ?_) (a' := ?_) #[true, true, true, true, true, true, true, false, false, false, false] rfl rfl (by kernel_rfl) (fun _ _ _ h => h) (Or.inl ⟨by rfl, ?_⟩) ?_ ?_
        rotate_left
        · intro w'
          go_simp
          with_reducible rfl
        rotate_left
        · simp only [Act.put, List.setIfInBounds_toArray, List.set_cons_zero, List.set_cons_succ, i64_w, i32_w]
          rfl
        refine take_ (i := 7) (N := some 55) (v := ?_) (a' := ?_) #[true, true, true, true, true, true, true, true, false, false, false] rfl rfl (by kernel_rfl) (fun _ _ _ h => h) (Or.inl ⟨by rfl, ?_⟩) hHeld ?_ ?_
        rotate_left
        · intro w' hs_; obtain ⟨s0, s1, s2⟩ := hs_
          go_simp
          with_reducible rfl
        rotate_left
        · simp only [Act.put, List.setIfInBounds_toArray, List.set_cons_zero, List.set_cons_succ, i64_w, i32_w]
          rfl
        refine pure_ (i := 8) (N := some 56) (v := ?_) (a' := ?_) #[true, true, true, true, true, true, true, true, true, false, false] rfl rfl (by kernel_rfl) (fun _ _ _ h => h) (Or.inl ⟨by rfl, ?_⟩) ?_ ?_
        rotate_left
        · intro w'
          go_simp
          with_reducible rfl
        rotate_left
        · simp only [Act.put, List.setIfInBounds_toArray, List.set_cons_zero, List.set_cons_succ, i64_w, i32_w]
          rfl
        refine pure_ (i := 9) (N := some 57) (v := ?_) (a' := ?_) #[true, true, true, true, true, true, true, true, true, true, false] rfl rfl (by kernel_rfl) (fun _ _ _ h => h) (Or.inl ⟨by rfl, ?_⟩) ?_ ?_
        rotate_left
        · intro w'
          go_simp
          with_reducible rfl
        rotate_left
        · simp only [Act.put, List.setIfInBounds_toArray, List.set_cons_zero, List.set_cons_succ, i64_w, i32_w]
          rfl
        refine last_ (i := 10) (N := none) #[true, true, true, true, true, true, true, true, true, true, true] rfl rfl (by kernel_rfl) (by decide) (fun K hK => ?_)
        refine skip_ (w1 := ?_) (by rfl) rfl ?_ ?_
        rotate_left
        · obtain ⟨s0, s1, s2⟩ := hHeld
          go_simp
          rfl
        refine hK.out _ _ ?_
        clear hK K
        refine done_ (by kernel_rfl) ?_
        have hho : Ow (wr.setCell ⟨g, i, none⟩ (.int .u8 (xorI x y))).drew w3.heap.size 5 1 (.slice (some ⟨g, 0, none⟩) 48 c5) (By (Pl.part bs ys none (i + 1))) := ho6
        have hhb : Below w3.heap.size w3 (wr.setCell ⟨g, i, none⟩ (.int .u8 (xorI x y))).drew := hb6.drew
        have hhc : (wr.setCell ⟨g, i, none⟩ (.int .u8 (xorI x y))).drew.cell? ⟨bB, oB + i, none⟩ = some (.int .u8 y) := hcB6
        have hhz : w5.heap.size ≤ (wr.setCell ⟨g, i, none⟩ (.int .u8 (xorI x y))).drew.heap.size := by show w5.heap.size ≤ (wr.setCell ⟨g, i, none⟩ (.int .u8 (xorI x y))).heap.size; rw [World.size_setCell]; exact hz5
        generalize (wr.setCell ⟨g, i, none⟩ (.int .u8 (xorI x y))).drew = W at hho hhb hhc hhz ⊢
        clear ho6 hb6 hcB6 hcC hfC hcB hb hz5
        simp only [Exit.then]
        apply_assumption
        cases hv with
        | true =>
          go_wp2_with fail
          go_roundw
          case rel => exact ⟨i + 1, by omega, by omega, by go_num, by rw [unhide hhit]; rfl, hho, hhb, hhz⟩
          case measure => simp [intOf]; omega
        | false =>
          by_cases hy0 : y = 0
          · have hy1 := hide hy0
            subst hy0
            go_wp2_with fail
            go_roundw
            case rel => exact ⟨i + 1, by omega, by omega, by go_num, by rw [unhide hhit]; rfl, hho, hhb, hhz⟩
            case measure => simp [intOf]; omega
          · have hy2 : (y != 0) = true := by rw [bne_iff_ne]; exact hy0
            have hh : hitB ys (i + 1) = true := by rw [unhide hhit, hy2]; rfl
            replace hh := hide hh
            go_wp2_with fail
            go_roundw
            case rel => exact ⟨i + 1, by omega, by omega, by go_num, by rw [unhide hh], hho, hhb, hhz⟩
            case measure => simp [intOf]; omega
      · obtain ⟨hv, hhv⟩ : ∃ hv, hv = hitB ys i := ⟨_, rfl⟩
        rw [← hhv]
        replace hhv := hide hhv
        have hbw : Below w.heap.size w wr := hb3.trans (hb.mono hb3.size)
        have hend : ((i : Int) < M ∧ ¬ (i : Int) < 48) ∨ ¬ (i : Int) < M := by omega
        cases hv with
        | false =>
          rcases hend with ⟨he1, he2⟩ | he
          · go_wp2_with fail
            go_ret
            exact ⟨rfl, hbw⟩
          · go_wp2_with fail
            go_ret
            exact ⟨rfl, hbw⟩
        | true =>
          have hTw := (unhide hT).below hb
          have hzw := hb.size
          have hlp : (Pl.part bs ys none i).length = 48 := by rw [part_len]; exact unhide gbl
          have hpb := part_bytes (unhide gb).2 (unhide hys) i
          have hne := hitB_ne (bs := bs) (by have := unhide gbl; omega) (unhide gb).2 (unhide hys) (unhide hhv).symm
          have hgw : g < wr.heap.size := by omega
          have hslp := (ho.sl (By.sized _) (by omega)).less (Nat.zero_le _)
          obtain ⟨hT16, n16, f16⟩ := hTw.set k (by omega) (some ⟨g, 0, none⟩, c5, Pl.part bs ys none i) (by show (Pl.part bs ys none i).length ≤ c5; omega) (by show (Pl.part bs ys none i).length ≤ 1000000; omega) hslp (fun a ha => by
            have ha' : (some ⟨g, 0, none⟩ : Option Addr) = some a := ha
            injection ha' with ha'
            subst ha'
            exact ⟨hgw, by show g ≠ gT; omega⟩)
          obtain ⟨v16, n16⟩ := some_of_ne n16
          have hcl : Hr.cell (some ⟨g, 0, none⟩, c5, Pl.part bs ys none i) = .slice (some ⟨g, 0, none⟩) 48 c5 := by
            unfold Hr.cell
            simp only [hlp]
          rw [hcl] at hT16
          have hb16 : Below w.heap.size w (wr.setCell ⟨gT, k, none⟩ (.slice (some ⟨g, 0, none⟩) 48 c5)) := hbw.setCell hgTb _
          obtain ⟨_, _, hC16⟩ := RC.of_rws hT16 (by rw [List.length_set]; have := unhide hTl; omega)
          have hL16 : (T.set k (some ⟨g, 0, none⟩, c5, Pl.part bs ys none i)).map (·.2.2) = L.set k (Pl.part bs ys none i) := by rw [List.map_set, unhide hTL]
          rw [hL16] at hC16
          have hfit : ∀ r ∈ L.set k (Pl.part bs ys none i), r ≠ [] ∧ OkB r ∧ r.length ≤ 1000000 := fun r hr => by
            rcases List.mem_or_eq_of_mem_set hr with h | h
            · exact (unhide fa2) r h
            · rw [h]; exact ⟨fun e => by rw [e] at hlp; simp at hlp, hpb, by omega⟩
          have hlen : 7 = (L.set k (Pl.part bs ys none i)).length := by rw [List.length_set, unhide fa1]
          have hdt := fun (P : List Int) (ps : List Pg) hP hkP h0 hq => dec_turned (u := 4) (a := 1) (most := 1) (m := 5) (k := k) (P := P) (ps := ps) (b := Pl.part bs ys none i) (unhide hC) (by omega) hP (by omega) hkP h0 (by omega) hq hlp hpb (by rw [← unhide hbs]; exact hne)
          clear hTw hhv ho hb hslp hT16 hne hpb hL16
          generalize Pl.part bs ys none i = cs at hC16 hfit hlen hdt hlp hcl
          replace hlp := hide hlp
          replace hcl := hide hcl
          replace hlen := hide hlen
          obtain ⟨W16, hW16⟩ : ∃ W16, W16 = wr.setCell ⟨gT, k, none⟩ (.slice (some ⟨g, 0, none⟩) 48 c5) := ⟨_, rfl⟩
          rw [← hW16] at hC16 hb16
          have fin : ∀ (P : List Int) (AP : Option Addr) (cP nP : Nat) (W17 : World), nP = P.length → nP ≤ 1 → Below W16.heap.size W16 W17 → Sl W17 0 W17.heap.size 1 AP (In P) → Pc.Ok 1 7 P → P.contains (k : Int) = false →
              Calls Try.prog 18 #[.slice (some ⟨gT, 0, none⟩) 7 c4, .slice AP nP cP] W17 fun x w' => ∃ A' c', x = .returned (.slice A' 7 c') ∧ Below W17.heap.size W17 w' ∧
                Calls Try.prog 17 #[.int .i64 4, .int .i64 1, .slice A' 7 c', .int .i64 1] w' fun x w2 => x = .returned (.tuple #[.agg #[.int .i64 0, .int .i64 0, .slice none 0 0], .int .i64 5]) ∧ Below w'.heap.size w' w2 := fun P AP cP nP W17 hnP hn1 hbP hsP hP hkP => by
            refine (pages_any (some ⟨gT, 0, none⟩) AP c4 cP 7 nP (L.set k cs) P W17 (unhide hlen) hnP (Kd.C_below hC16 hbP) hc4 hfit (by omega) hsP (by omega) (fun x hx => hP.2.1 x hx)).mono ?_
            rintro x w' ⟨A', c', ps, rfl, hc', hq, hpg, ho, hb'⟩
            obtain ⟨l1, d1, i1⟩ := hdt P ps hP hkP (by omega) hq
            refine ⟨A', c', rfl, hb', (decode_all 4 1 1 A' c' 7 ps w' l1.symm i1 hc' ((ho.sl (Pg.sized _) (by omega)).less (Nat.zero_le _)) (hpg.below hb')).mono ?_⟩
            rintro x w2 ⟨hx, hb2⟩
            rw [d1] at hx
            exact ⟨hx, hb2⟩
          clear hC16 hfit hdt hlen hlp hcl
          have hkI2 : (k : Int) < 7 := by omega
          rcases hend with ⟨he1, he2⟩ | he
          all_goals
            go_wp2_with fail
            rw [← hW16]
            refine (hw3 _).mono ?_
            rintro e wq ⟨rfl, rfl⟩
            by_cases hjk : j < 7 ∧ j ≠ k
            · have hjI : (j : Int) < 7 := by omega
              have hjkI : ¬ ((j : Int) = k) := by omega
              have hpgw := fin [(j : Int)] (some ⟨W16.heap.size, 0, none⟩) 1 1 (W16.alloc (.cells #[.int .i64 j] 3)) rfl (by omega) ((Below.refl _ _).alloc (Nat.le_refl _) _) (Sl.one (rd_new_whole _ _ _ _ _ _ rfl rfl) (Nat.zero_le _) (by simp)) ⟨by simp, by simp; omega, by simp⟩ (by simp; omega)
              have hb17 := hb16.alloc hb16.size (Obj.cells #[.int .i64 j] 3)
              clear fin hW16
              go_wp2_with fail
              (with_reducible refine hpgw.mono ?_)
              rintro x w18 ⟨A18, c18, rfl, hb18', hdec⟩
              have hb18 := hb17.trans (hb18'.mono hb17.size)
              go_wp2_with fail
              (with_reducible refine hdec.mono ?_)
              rintro x w19 ⟨rfl, hb19'⟩
              have hb19 := hb18.trans (hb19'.mono hb18.size)
              have hbF := hb19.alloc hb19.size (Obj.cells #[.int .i64 0, .int .i64 0, .slice none 0 0] 37)
              go_wp2_with fail
              go_ret
              exact ⟨rfl, hbF⟩
            · have hpgw := fin [] none 0 0 W16 rfl (by omega) (Below.refl _ _) Sl.nil ⟨by simp, by simp, by simp⟩ (by simp)
              have hjk' : (¬ (j : Int) < 7) ∨ ((j : Int) < 7 ∧ (j : Int) = k) := by omega
              clear fin hW16
              rcases hjk' with hj7 | ⟨hj7, hjk7⟩
              all_goals
                go_wp2_with fail
                (with_reducible refine hpgw.mono ?_)
                rintro x w18 ⟨A18, c18, rfl, hb18', hdec⟩
                have hb18 := hb16.trans (hb18'.mono hb16.size)
                go_wp2_with fail
                (with_reducible refine hdec.mono ?_)
                rintro x w19 ⟨rfl, hb19'⟩
                have hb19 := hb18.trans (hb19'.mono hb18.size)
                have hbF := hb19.alloc hb19.size (Obj.cells #[.int .i64 0, .int .i64 0, .slice none 0 0] 37)
                go_wp2_with fail
                go_ret
                exact ⟨rfl, hbF⟩
  · have hlI : ¬ (N : Int) ≤ 8 := by omega
    go_wp2_with fail
    go_ret
    exact ⟨rfl, hb1⟩
end Go.Proofs.Ytibileffpgnjhaa.Base
