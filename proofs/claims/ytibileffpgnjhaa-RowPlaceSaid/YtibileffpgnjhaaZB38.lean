/-
  Parts of a proof, laid together by a program of mine (pack.py): Bl.
-/
import Derived.Test.YtibileffpgnjhaaZB37
namespace Go.Proofs.Ytibileffpgnjhaa.Base
open Go.RowKit Go.Maps Go.Proofs.YtibileffpgnjhaaW.PrintWords Go.Proofs.YtibileffpgnjhaaW.PrintLast
open Go.Proofs.Ytibileffpgnjhaa.Fld Go.Proofs.Ytibileffpgnjhaa.Pl
set_option linter.unusedSimpArgs false
set_option linter.unusedVariables false
theorem places_new (A : Option Addr) (c n m lim : Nat) (l : List Int) (w : World) (hn : n = l.length) (hc : n ≤ c) (hl : c ≤ maxLen) (hm : 1 ≤ m) (hm2 : m ≤ 1000000) (hlim : lim ≤ 1000) (hs : Sl w 0 w.heap.size 1 A (In l)) : ∃ P, Pc.Ok lim m P ∧ ∀ w', Below w.heap.size w w' →
    Calls Try.prog 16 #[.slice A n c, .int .i64 m, .int .i64 lim] w' fun x w2 => ∃ A' c', x = .returned (.slice A' P.length c') ∧ P.length ≤ c' ∧ Sl w2 w'.heap.size w2.heap.size 1 A' (In P) ∧ Below w'.heap.size w' w2 := by
  subst hn
  unfold maxLen at hl
  obtain ⟨P, hP, hok⟩ := Pc.places_ev l m lim hm hm2 hlim (by omega)
  obtain ⟨k, hk⟩ := hP.rounds
  refine ⟨P, hok, fun w' hb => (PRq.ramekinlaw4_Places.calls k A c l _ _ P w' (C_of_in (by omega) ((hs.below hb).more hb.size)) hc hk).mono ?_⟩
  rintro e w2 ⟨v, rfl, hR, hB⟩
  obtain ⟨A', c', rfl, hc', hs'⟩ := in_of_R hR
  exact ⟨A', c', rfl, hc', hs', hB⟩
theorem DecR.form {r : DecA} {a : Int} {w w' : World} {x : Ending} (h : DecR r a w x w') : ∃ (s1 a1 : Int) (A1 : Option Addr) (n1 c1 : Nat), x = .returned (.tuple #[.agg #[.int .i64 s1, .int .i64 a1, .slice A1 n1 c1], .int .i64 r.1]) := by
  obtain ⟨c, o⟩ := r
  cases o with
  | none => exact ⟨0, 0, none, 0, 0, h⟩
  | some q =>
    obtain ⟨ser, es⟩ := q
    obtain ⟨A', c', hx, _⟩ := h
    exact ⟨ser, a, A', es.length, c', hx⟩
/-- where pages are blank -/
def zeroG : Nat → List Pg → List Int
  | _, [] => []
  | i, p :: ps => if p.1 = 0 then (i : Int) :: zeroG (i + 1) ps else zeroG (i + 1) ps
theorem zeroG_len : ∀ (ps : List Pg) (i : Nat), (zeroG i ps).length = zs ps
  | [], _ => by simp [zeroG, zs]
  | p :: ps, i => by
    have ih := zeroG_len ps (i + 1)
    unfold zs at ih ⊢
    simp only [zeroG, List.map_cons]
    by_cases h : p.1 = 0
    · rw [if_pos h, h, List.count_cons_self, List.length_cons, ih]
    · rw [if_neg h, List.count_cons_of_ne h, ih]
theorem zeroG_mem : ∀ (ps : List Pg) (i : Nat) (x : Int), x ∈ zeroG i ps ↔ ∃ j, ∃ h : j < ps.length, x = ((i + j : Nat) : Int) ∧ ps[j].1 = 0
  | [], i, x => by simp [zeroG]
  | p :: ps, i, x => by
    have ih := zeroG_mem ps (i + 1) x
    have key : (∃ j, ∃ h : j < (p :: ps).length, x = ((i + j : Nat) : Int) ∧ (p :: ps)[j].1 = 0) ↔ (x = (i : Int) ∧ p.1 = 0) ∨ ∃ j, ∃ h : j < ps.length, x = ((i + 1 + j : Nat) : Int) ∧ ps[j].1 = 0 := by
      constructor
      · rintro ⟨j, hj, hx, h2⟩
        cases j with
        | zero => exact .inl ⟨hx, h2⟩
        | succ j => exact .inr ⟨j, by simpa using hj, by rw [hx]; congr 1; omega, h2⟩
      · rintro (⟨hx, h2⟩ | ⟨j, hj, hx, h2⟩)
        · exact ⟨0, by simp, hx, h2⟩
        · exact ⟨j + 1, by simpa using hj, by rw [hx]; congr 1; omega, h2⟩
    rw [key, ← ih, zeroG]
    by_cases h : p.1 = 0
    · rw [if_pos h, List.mem_cons]
      exact ⟨fun h' => h'.imp (fun e => ⟨e, h⟩) id, fun h' => h'.imp (fun e => e.1) id⟩
    · rw [if_neg h]
      exact ⟨.inr, fun h' => h'.resolve_left (fun h2 => h h2.2)⟩
theorem zeroG_nodup : ∀ (ps : List Pg) (i : Nat), (zeroG i ps).Nodup
  | [], _ => List.nodup_nil
  | p :: ps, i => by
    have ih := zeroG_nodup ps (i + 1)
    rw [zeroG]
    split
    · refine List.nodup_cons.2 ⟨fun h => ?_, ih⟩
      obtain ⟨j, _, e, _⟩ := (zeroG_mem ps (i + 1) _).1 h
      omega
    · exact ih
/-- as many are blank as were laid so -/
theorem zs_set {ps : List Pg} {L : List (List Int)} {P Bl : List Int} (h : ps.map qOf = setQ (pagesQ L P) Bl (0, [])) (hP : ∀ x ∈ P, 0 ≤ x) (hB : ∀ x ∈ Bl, 0 ≤ x ∧ x < (L.length : Int)) (hn : Bl.Nodup) : ps.length = L.length ∧ zs ps = Bl.length ∧ ∀ p ∈ ps, I64 p.1 := by
  have hl : ps.length = L.length := by have := congrArg List.length h; rwa [List.length_map, setQ_len, pagesQ_len] at this
  have hat : ∀ j (hj : j < ps.length), qOf ps[j] = if Bl.contains (j : Int) = true then ((0, []) : Qg) else if P.contains (j : Int) = true then (1, []) else (2, row L j) := fun j hj => by
    have : (ps.map qOf)[j]? = (setQ (pagesQ L P) Bl (0, []))[j]? := by rw [h]
    rw [setQ_at Bl _ _ j (by rw [pagesQ_len]; omega) (fun x hx => (hB x hx).1), pagesQ_at hP (by omega), List.getElem?_map, List.getElem?_eq_getElem hj] at this
    by_cases hc : Bl.contains (j : Int) = true
    · rw [if_pos hc] at this ⊢; simpa using this
    · rw [if_neg hc] at this ⊢; simpa using this
  have hz : ∀ x, x ∈ zeroG 0 ps ↔ x ∈ Bl := fun x => by
    rw [zeroG_mem]
    constructor
    · rintro ⟨j, hj, e, h2⟩
      have := hat j hj
      rw [Nat.zero_add] at e
      by_cases hc : Bl.contains (j : Int) = true
      · rw [e]; simpa using hc
      · rw [if_neg hc] at this
        have h1 := congrArg Prod.fst this
        have h3 : (qOf ps[j]).1 = ps[j].1 := rfl
        rw [h3, h2] at h1
        split at h1
        · exact absurd h1 (show ¬ ((0 : Int) = 1) by omega)
        · exact absurd h1 (show ¬ ((0 : Int) = 2) by omega)
    · intro hx
      have hx0 := hB x hx
      refine ⟨x.toNat, by omega, by omega, ?_⟩
      have := hat x.toNat (by omega)
      rw [if_pos (by rw [Int.toNat_of_nonneg hx0.1]; simpa using hx)] at this
      exact congrArg Prod.fst this
  refine ⟨hl, ?_, fun p hp => ?_⟩
  · rw [← zeroG_len ps 0]
    have h1 := nodup_le (zeroG_nodup ps 0) (fun x hx => (hz x).1 hx)
    have h2 := nodup_le hn (fun x hx => (hz x).2 hx)
    omega
  · obtain ⟨j, hj, rfl⟩ := List.getElem_of_mem hp
    have h1 := congrArg Prod.fst (hat j hj)
    have h3 : (qOf ps[j]).1 = ps[j].1 := rfl
    rw [h3] at h1
    rw [h1]
    split
    · exact (⟨by omega, by omega⟩ : I64 0)
    · split
      · exact (⟨by omega, by omega⟩ : I64 1)
      · exact (⟨by omega, by omega⟩ : I64 2)
set_option maxRecDepth 100000 in
set_option maxHeartbeats 4000000 in
theorem blank_walk (a3 a4 : Int) (A A1 A2 : Option Addr) (c c1 c2 N N1 N2 : Nat) (es : List Ent) (blank lost : List Int) (w : World) (h3 : I64 a3) (h4 : I64 a4) (hN : N = es.length) (hc : N ≤ c) (hm : c ≤ maxLen) (hs : Sl w 0 w.heap.size 19 A (es.map Ent.arr)) (hwf : ∀ e ∈ es, e.Wf)
    (hN1 : N1 = blank.length) (hc1 : N1 ≤ c1) (hm1 : c1 ≤ maxLen) (hs1 : Sl w 0 w.heap.size 1 A1 (In blank)) (hN2 : N2 = lost.length) (hc2 : N2 ≤ c2) (hm2 : c2 ≤ maxLen) (hs2 : Sl w 0 w.heap.size 1 A2 (In lost)) :
    Calls Try.prog 8 #[.slice A N c, .slice A1 N1 c1, .slice A2 N2 c2, .int .i64 a3, .int .i64 a4] w fun e w' => e = .returned (.bool true) ∧ Below w.heap.size w w' := by
  obtain ⟨k, hk, hw4⟩ := w11_lt a4 3 h4 (by omega) (by omega)
  obtain ⟨q, hq3, hw3⟩ := w11_lt a3 3 h3 (by omega) (by omega)
  obtain ⟨P, hP, hpl⟩ := places_out A2 c2 N2 (6 + k) 3 lost w hN2 hc2 hm2 (by omega) (by omega) (by omega) hs2
  obtain ⟨Bl, hBl, hbl⟩ := places_new A1 c1 N1 (6 + k) (6 + k) blank w hN1 hc1 hm1 (by omega) (by omega) (by omega) hs1
  obtain ⟨es1, hes1⟩ : ∃ es1, es1 = (es.take (4 + k)).map goodE := ⟨_, rfl⟩
  obtain ⟨hwf1, hok1⟩ := okw_good hes1 hwf
  have hl1 : es1.length ≤ 4 + k := by rw [hes1, List.length_map, List.length_take]; omega
  have hsl := fun (W : World) hsW => slots_own A c (4 + k) N (6 + (k : Int) - 2) es es1 W (by omega) hes1 (by omega) hN hc hm hwf hsW
  clear hes1 hwf
  generalize hn1 : es1.length = n1 at hl1 hsl
  have hn1' := hide hn1
  have hwf1 := hide hwf1
  have hok1 := hide hok1
  replace hP := hide hP
  replace hBl := hide hBl
  clear hn1
  replace hN := hide hN
  replace hN1 := hide hN1
  replace hN2 := hide hN2
  go_enter Try.func8, Try.ntmps8
  go_wp2_with fail
  refine (known_any _).mono ?_
  rintro e w1 ⟨rfl, hb1⟩
  have hslw := hsl _ ((hs.below hb1).more hb1.size)
  go_wp2_with fail
  refine (hw4 _).mono ?_
  rintro e wq ⟨rfl, rfl⟩
  go_wp2_with fail
  (with_reducible refine hslw.mono ?_)
  rintro x w2 ⟨A3, c3, rfl, hc3, ho2, hb2'⟩
  have hb2 := hb1.trans (hb2'.mono hb1.size)
  have hen := rencode_row (6 + (k : Int)) (4 + k) 5 1 1 A3 c3 n1 es1 w2 (by omega) (by omega) (by omega) (by omega) (by omega) (unhide hn1').symm hl1 (unhide hwf1) (unhide hok1) hc3 ((ho2.sl (Ent.sized _) (by omega)).less (Nat.zero_le _))
  clear hslw hsl ho2 hb2'
  go_wp2_with fail
  (with_reducible refine hen.mono ?_)
  rintro x w3 ⟨A4, c4, rfl, hc4, hC4, hb3'⟩
  have hb3 := hb2.trans (hb3'.mono hb2.size)
  clear hen hb3'
  have hplw := hpl _ hb3
  rw [show ((6 + k : Nat) : Int) = 6 + (k : Int) from by omega, show ((3 : Nat) : Int) = 3 from rfl] at hplw
  generalize hnp : P.length = np at hplw
  have hnp' := hide hnp
  clear hnp hpl
  go_wp2_with fail
  (with_reducible refine hplw.mono ?_)
  rintro x w4 ⟨A5, c5, rfl, hc5, hs5, hb4'⟩
  have hb4 := hb3.trans (hb4'.mono hb3.size)
  have hC5 : RC w4 A4 (4 + k + 2) (fullE 5 1 1 es1 (4 + k)) := Kd.C_below hC4 hb4'
  obtain ⟨ff1, ff2⟩ := full_fit 5 1 1 es1 (4 + k) (unhide hwf1)
  have hpg := pages_any A4 A5 c4 c5 (4 + k + 2) np _ P w4 ff1.symm (unhide hnp').symm hC5 hc4 ff2 (by omega) hs5 (by have := (unhide hP).1; have := unhide hnp'; omega) (fun x hx => by have := (unhide hP).2.1 x hx; omega)
  clear hplw hC4 hb4' hs5 hC5
  go_wp2_with fail
  (with_reducible refine hpg.mono ?_)
  rintro x w5 ⟨A6, c6, ps, rfl, hc6, hq6, hp6, ho6, hb5'⟩
  have hb5 := hb4.trans (hb5'.mono hb4.size)
  clear hpg
  have hblw := hbl _ hb5
  rw [show ((6 + k : Nat) : Int) = 6 + (k : Int) from by omega] at hblw
  generalize hnb : Bl.length = nb at hblw
  have hnb' := hide hnb
  clear hnb hbl
  go_wp2_with fail
  (with_reducible refine hblw.mono ?_)
  rintro x w6 ⟨A7, c7, rfl, hc7, hs7, hb6'⟩
  have hz45 := hb5'.size
  have hb46 : Below w4.heap.size w4 w6 := hb5'.trans (hb6'.mono hz45)
  have hO6 := ho6.below hb6' (fun g hg => (ho6.lt g hg).2)
  have hg6 : ∀ g, (Value.slice A6 (4 + k + 2) c6).ownBlock = some g → g < w5.heap.size := fun g hg => (ho6.lt g hg).2
  clear hblw ho6 hb5' hb6'
  have hq0 : ps.map qOf = setQ (pagesQ (fullE 5 1 1 es1 (4 + k)) P) (Bl.take 0) (0, []) := hq6
  have hpl0 : ps.length = 4 + k + 2 := by
    have := congrArg List.length hq0
    rwa [List.length_map, setQ_len, pagesQ_len, ff1] at this
  replace hq0 := hide hq0
  replace hpl0 := hide hpl0
  replace hp6 := hide hp6
  have ffl := hide ff1
  clear hq6 ff1 ff2
  have hnb8 : nb ≤ 6 + k := by have := (unhide hBl).1; have := unhide hnb'; omega
  go_wp2_with fail
  go_loopw [16] (fun s16 wr => ∃ (j : Nat) (ps : List Pg), j ≤ nb ∧ s16 = .int .i64 j ∧ Hid (ps.map qOf = setQ (pagesQ (fullE 5 1 1 es1 (4 + k)) P) (Bl.take j) (0, [])) ∧ Hid (PgsAt w4 ps) ∧ Hid (ps.length = 4 + k + 2) ∧ Ow wr w4.heap.size 56 2 (.slice A6 (4 + k + 2) c6) (ps.map Pg.arr) ∧ Below w4.heap.size w4 wr ∧ Sl wr w5.heap.size w6.heap.size 1 A7 (In Bl)) (fun s16 _ => nb - (intOf s16).toNat)
  case atStart => exact ⟨0, ps, by omega, rfl, hq0, hp6, hpl0, hO6, hb46, hs7⟩
  case round =>
    clear hq0 hp6 hpl0 hO6 hb46 hs7 ps
    obtain ⟨j, ps, hj, rfl, hq, hpg, hpl, ho, hb, hs7⟩ := hrel
    by_cases hlt : j < nb
    · have hltI : (j : Int) < nb := by omega
      have hjl : j < Bl.length := by rw [unhide hnb']; exact hlt
      obtain ⟨b1, o1, rfl, hL1, hB1, hr1⟩ := hs7.at_ (k := j) (by rw [In.len]; exact hjl)
      have hx := (unhide hBl).2.1 Bl[j] (List.getElem_mem hjl)
      obtain ⟨i, hi⟩ := Int.eq_ofNat_of_zero_le hx.1
      have hij : i < 4 + k + 2 := by omega
      have hcB : wr.cell? ⟨b1, o1 + j, none⟩ = some (.int .i64 (i : Int)) := by
        have := rd_cell hr1 0 (by omega)
        rw [Nat.mul_one, Nat.add_zero] at this
        rw [this, ← hi]
        simp [In]
      obtain ⟨g, rfl, hgb, hgl, hjunk⟩ := ho.some_of (by omega)
      clear hjunk
      have hg5 := hg6 g rfl
      obtain ⟨ho6, n1', n2', f1, f2⟩ := ho.setPg (unhide hpl).symm i hij blankPg
      obtain ⟨v1, n1'⟩ := some_of_ne n1'
      obtain ⟨v2, n2'⟩ := some_of_ne n2'
      have hij2 : (i : Int) < 4 + (k : Int) + 2 := by omega
      have hi0 : (0 : Int) ≤ i := by omega
      have hq7 : (ps.set i blankPg).map qOf = setQ (pagesQ (fullE 5 1 1 es1 (4 + k)) P) (Bl.take (j + 1)) (0, []) := by
        rw [List.take_succ_eq_append_getElem hjl, setQ_snoc, ← unhide hq, hi, Int.toNat_natCast, List.map_set]; rfl
      have hp7 : PgsAt w4 (ps.set i blankPg) := (unhide hpg).set i (PgOk.bad w4 0)
      have hl7 : (ps.set i blankPg).length = 4 + k + 2 := by rw [List.length_set]; exact unhide hpl
      have hb7 : Below w4.heap.size w4 ((wr.setCell ⟨g, i * 2, none⟩ (.int .i64 0)).setCell ⟨g, i * 2 + 1, none⟩ (.slice none 0 0)) := (hb.setCell hgb _).setCell hgb _
      have ho7 : Ow ((wr.setCell ⟨g, i * 2, none⟩ (.int .i64 0)).setCell ⟨g, i * 2 + 1, none⟩ (.slice none 0 0)) w4.heap.size 56 2 (.slice (some ⟨g, 0, none⟩) (4 + k + 2) c6) ((ps.set i blankPg).map Pg.arr) := ho6
      have hs8 : Sl ((wr.setCell ⟨g, i * 2, none⟩ (.int .i64 0)).setCell ⟨g, i * 2 + 1, none⟩ (.slice none 0 0)) w5.heap.size w6.heap.size 1 (some ⟨b1, o1, none⟩) (In Bl) := (hs7.setCell (.inl hg5) _).setCell (.inl hg5) _
      replace hq7 := hide hq7
      replace hp7 := hide hp7
      replace hl7 := hide hl7
      replace hi := hide hi
      clear hq hpg hpl ho ho6 hb hx hr1 hs7 hL1 hB1
      go_wp2_with fail
      go_roundw
      case rel => exact ⟨j + 1, _, by omega, by go_num, hq7, hp7, hl7, ho7, hb7, hs8⟩
      case measure => simp [intOf]; omega
    · obtain rfl : j = nb := by omega
      have hqf : ps.map qOf = setQ (pagesQ (fullE 5 1 1 es1 (4 + k)) P) Bl (0, []) := by
        have := unhide hq
        rwa [List.take_of_length_le (by rw [unhide hnb']; exact Nat.le_refl _)] at this
      obtain ⟨z1, z2, z3⟩ := zs_set hqf (fun x hx => ((unhide hP).2.1 x hx).1) (fun x hx => by have := (unhide hBl).2.1 x hx; rw [unhide ffl]; omega) (unhide hBl).2.2
      rw [unhide hnb'] at z2
      have hpl' := unhide hpl
      have hdec := decode_all 1 1 (q : Int) A6 c6 (4 + k + 2) ps wr hpl'.symm z3 hc6 ((ho.sl (Pg.sized _) (by omega)).less (Nat.zero_le _)) ((unhide hpg).below hb)
      have hbw : Below w.heap.size w wr := hb4.trans (hb.mono hb4.size)
      have hcode : 0 < j → (decP 1 1 ps (q : Int)).1 = if j = 4 + k + 2 then 2 else 5 := fun hp => by
        unfold decP
        rw [if_neg (not_not_intro ⟨by omega, by omega, by omega, by omega⟩), if_pos (.inl (by omega))]
        unfold early
        rw [z2, hpl']
        by_cases h : j = 4 + k + 2
        · rw [if_pos h, if_pos h]
        · rw [if_neg h, if_neg h, if_pos hp]
      obtain ⟨cd, hcd⟩ : ∃ cd, cd = (decP 1 1 ps (q : Int)).1 := ⟨_, rfl⟩
      have hdec2 : Calls Try.prog 17 #[.int .i64 1, .int .i64 1, .slice A6 (4 + k + 2) c6, .int .i64 q] wr fun x w' => (∃ (s1 a1 : Int) (A1 : Option Addr) (n1 c1 : Nat), x = .returned (.tuple #[.agg #[.int .i64 s1, .int .i64 a1, .slice A1 n1 c1], .int .i64 cd])) ∧ Below wr.heap.size wr w' := hdec.mono fun x w' h => ⟨by rw [hcd]; exact h.1.form, h.2⟩
      rw [← hcd] at hcode
      clear hdec hcd z1 z2 z3 hqf hpl' ho hb hq hpg hpl hs7
      go_wp2_with fail
      refine (hw3 _).mono ?_
      rintro e wq ⟨rfl, rfl⟩
      go_wp2_with fail
      (with_reducible refine hdec2.mono ?_)
      rintro x w7 ⟨⟨s1, a1, A8, n8, c8, rfl⟩, hb7'⟩
      have hb7 := hbw.trans (hb7'.mono hbw.size)
      have hbF := hb7.alloc hb7.size (Obj.cells #[.int .i64 s1, .int .i64 a1, .slice A8 n8 c8] 37)
      by_cases hj0 : 0 < j
      · have hcode' := hcode hj0
        clear hcode
        by_cases hfull : j = 4 + k + 2
        · rw [if_pos hfull] at hcode'
          subst hcode'
          have hfI : (j : Int) = 6 + (k : Int) := by omega
          clear hfull
          go_wp2_with fail
          go_ret
          exact ⟨rfl, hbF⟩
        · rw [if_neg hfull] at hcode'
          subst hcode'
          have hfI : ¬ ((j : Int) = 6 + (k : Int)) := by omega
          have hj0I : ¬ ((j : Int) = 0) := by omega
          clear hfull
          go_wp2_with fail
          go_ret
          exact ⟨rfl, hbF⟩
      · have hfI : ¬ ((j : Int) = 6 + (k : Int)) := by omega
        have hj0I : (j : Int) = 0 := by omega
        go_wp2_with fail
        go_ret
        exact ⟨rfl, hbF⟩
end Go.Proofs.Ytibileffpgnjhaa.Base
