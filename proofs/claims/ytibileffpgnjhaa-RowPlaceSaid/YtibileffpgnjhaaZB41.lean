/-
  Parts of a proof, laid together by a program of mine (pack.py): Pw.
-/
import Derived.BigQuiet
import Derived.Test.YtibileffpgnjhaaZB40
namespace Go.Proofs.Ytibileffpgnjhaa.Base
open Go.RowKit Go.Maps Go.Proofs.YtibileffpgnjhaaW.PrintWords Go.Proofs.YtibileffpgnjhaaW.PrintLast
open Go.Proofs.Ytibileffpgnjhaa.Fld Go.Proofs.Ytibileffpgnjhaa.Pl
set_option linter.unusedSimpArgs false
set_option linter.unusedVariables false
theorem ok_nil (n : Nat) : ∃ lim, Pc.Ok lim n [] := ⟨0, by simp, by simp, by simp⟩
theorem dec_other {s u a u' a' most : Int} {es : List Ent} {m : Nat} {ps : List Pg} (hm : 4 ≤ m ∧ m ≤ 6) (hs : 1 ≤ s ∧ s ≤ 1099511627776) (hu : 0 ≤ u ∧ u ≤ 255) (ha : 0 ≤ a ∧ a ≤ 255) (hwf : ∀ e ∈ es, e.Wf) (hok : ∀ e ∈ es, OkE e) (h0 : 0 ≤ most) (h2 : most ≤ 2) (hq : ps.map qOf = pagesQ (fullE s u a es m) []) (hne : u ≠ u' ∨ a ≠ a') :
    ps.length = m + 2 ∧ decP u' a' ps most = (5, none) := by
  have hC := code_full s u a es m hwf
  obtain ⟨hl, hat⟩ := pages_at hq (by simp)
  obtain ⟨e1, _⟩ := lost_pages hq (by simp) List.nodup_nil
  rw [hC.len] at hl
  have hz : zs ps = 0 := zs_zero (fun j hj => by
    have := congrArg Prod.fst (hat j hj)
    have h3 : ps[j].1 = (qOf ps[j]).1 := rfl
    rw [h3, this, if_neg (by simp)]
    show ¬ ((2 : Int) = 0); omega)
  refine ⟨hl, ?_⟩
  rw [decP_of (by omega) (by omega) h0 h2 hz, e1, if_neg (by simp; omega)]
  obtain ⟨f1, f2⟩ := fix_lost hC (by omega) (by omega) hq ⟨by simp, by simp, by simp⟩
  rw [decL_of f1 (by rw [hl]; exact hC) f2, hl, show m + 2 - 2 = m from by omega, full_take, slot_other hs hu ha hok hwf (by omega) hne]
/-- a row with one payload that is wrong -/
theorem dec_wrong {u a most : Int} {L : List (List Int)} {m k : Nat} {P : List Int} {ps : List Pg} {b : List Int} {p' : Pg} (hC : Cd.Code L 48 m) (hm : 4 ≤ m ∧ m ≤ 6) (hP : Pc.Ok 1 (m + 2) P) (hk : k < m + 2) (hkP : P.contains (k : Int) = false) (h0 : (P.length : Int) ≤ most) (h2 : most ≤ 2) (hq : ps.map qOf = pagesQ L P)
    (hp' : qOf p' = (2, b)) (h48 : b.length = 48) (hb : OkB b) (hne : b ≠ row L k) : (ps.set k p').length = m + 2 ∧ decP u a (ps.set k p') most = (5, none) ∧ ∀ p ∈ ps.set k p', I64 p.1 := by
  obtain ⟨o1, o2, o3⟩ := hP
  have hin : ∀ x ∈ P, 0 ≤ x ∧ x < (L.length : Int) := fun x hx => by have := o2 x hx; have := hC.len; omega
  obtain ⟨hl, hat⟩ := pages_at hq (fun x hx => (hin x hx).1)
  have hl' : (ps.set k p').length = m + 2 := by rw [List.length_set, hl, hC.len]
  have hat' : ∀ j (hj : j < (ps.set k p').length), qOf (ps.set k p')[j] = if j = k then ((2, b) : Qg) else if P.contains (j : Int) = true then (1, []) else (2, row L j) := fun j hj => by
    rw [List.getElem_set]
    by_cases e : k = j
    · rw [if_pos e, if_pos e.symm]; exact hp'
    · rw [if_neg e, if_neg (fun h => e h.symm)]
      exact hat j (by rw [List.length_set] at hj; exact hj)
  have hst : ∀ j (hj : j < (ps.set k p').length), (ps.set k p')[j].1 = if P.contains (j : Int) = true then 1 else 2 := fun j hj => by
    have := congrArg Prod.fst (hat' j hj)
    have h3 : ((ps.set k p')[j]).1 = (qOf (ps.set k p')[j]).1 := rfl
    rw [h3, this]
    by_cases e : j = k
    · subst e
      rw [if_pos rfl, if_neg (by rw [hkP]; simp)]
    · rw [if_neg e]
      by_cases hc : P.contains (j : Int) = true
      · rw [if_pos hc, if_pos hc]
      · rw [if_neg hc, if_neg hc]
  have hlost : ∀ x, x ∈ lostG 0 (ps.set k p') ↔ x ∈ P := fun x => by
    rw [lostG_mem]
    constructor
    · rintro ⟨j, hj, e, h3⟩
      rw [Nat.zero_add] at e
      rw [hst j hj] at h3
      by_cases hc : P.contains (j : Int) = true
      · rw [e]; simpa using hc
      · rw [if_neg hc] at h3; exact absurd rfl h3
    · intro hx
      have hx0 := o2 x hx
      refine ⟨x.toNat, by omega, by omega, ?_⟩
      rw [hst, if_pos (by rw [Int.toNat_of_nonneg hx0.1]; simpa using hx)]
      decide
  have hlc : ∀ j : Nat, (lostG 0 (ps.set k p')).contains (j : Int) = P.contains (j : Int) := fun j => by
    rw [Bool.eq_iff_iff, List.contains_iff_mem, List.contains_iff_mem]; exact hlost _
  have hll : (lostG 0 (ps.set k p')).length = P.length := by
    have h1 := nodup_le (lostG_nodup (ps.set k p') 0) (fun x hx => (hlost x).1 hx)
    have h2 := nodup_le o3 (fun x hx => (hlost x).2 hx)
    omega
  have hby : ∀ j (hj : j < (ps.set k p').length), (ps.set k p')[j].2.2.2 = if j = k then b else if P.contains (j : Int) = true then [] else row L j := fun j hj => by
    have := congrArg Prod.snd (hat' j hj)
    have h3 : ((ps.set k p')[j]).2.2.2 = (qOf (ps.set k p')[j]).2 := rfl
    rw [h3, this]
    by_cases e : j = k
    · rw [if_pos e, if_pos e]
    · rw [if_neg e, if_neg e]
      split <;> rfl
  have hrow : ∀ j, j < m + 2 → row (pgB (ps.set k p')) j = if j = k then b else if P.contains (j : Int) = true then [] else row L j := fun j hj => by
    rw [row_lt (by unfold pgB; rw [List.length_map]; omega)]
    simp only [pgB, List.getElem_map]
    exact hby j (by omega)
  have hf : fine48 (ps.set k p') := fun p hp h3 => by
    obtain ⟨j, hj, rfl⟩ := List.getElem_of_mem hp
    rw [hst j hj] at h3
    rw [hby j hj]
    by_cases e : j = k
    · rw [if_pos e]; exact h48
    · rw [if_neg e]
      by_cases hc : P.contains (j : Int) = true
      · rw [if_pos hc] at h3; exact absurd h3 (by decide)
      · rw [if_neg hc]; exact (Tw.good_row hC.good (i := j) (by have := hC.len; omega)).1
  have hbs : ∀ p ∈ ps.set k p', OkB p.2.2.2 := fun p hp => by
    obtain ⟨j, hj, rfl⟩ := List.getElem_of_mem hp
    rw [hby j hj]
    split
    · exact hb
    · split
      · intro x hx; cases hx
      · exact (Tw.good_row hC.good (i := j) (by have := hC.len; omega)).2
  have hz : zs (ps.set k p') = 0 := zs_zero (fun j hj => by
    rw [hst j hj]
    split
    · show ¬ ((1 : Int) = 0); omega
    · show ¬ ((2 : Int) = 0); omega)
  have hw := fix_wrong (ps := ps.set k p') hC (by omega) (by omega) hl' hf hbs hk (by omega) (by rw [hlc]; exact hkP) (fun j hj hjk hc => by rw [hlc] at hc; rw [hrow j hj, if_neg hjk, if_neg (by rw [hc]; simp)]) (by rw [hrow k hk, if_pos rfl]; exact hne)
  refine ⟨hl', ?_, fun p hp => ?_⟩
  · rw [decP_of (by omega) (by omega) (by omega) h2 hz, hll, if_neg (by omega)]
    exact decL_bad hw
  · obtain ⟨j, hj, rfl⟩ := List.getElem_of_mem hp
    rw [hst j hj]
    split
    · exact (⟨by omega, by omega⟩ : I64 1)
    · exact (⟨by omega, by omega⟩ : I64 2)
theorem Ow.setPgB {w : World} {base g n c : Nat} {ps : List Pg} (h : Ow w base 56 2 (.slice (some ⟨g, 0, none⟩) n c) (ps.map Pg.arr)) (hn : n = ps.length) (i : Nat) (hi : i < ps.length) (p : Pg) (hp : p.1 = ps[i].1) :
    Ow (w.setCell ⟨g, i * 2 + 1, none⟩ p.2.cell) base 56 2 (.slice (some ⟨g, 0, none⟩) n c) ((ps.set i p).map Pg.arr) ∧ w.cell? ⟨g, i * 2 + 1, none⟩ ≠ none ∧ w.frozen? ⟨g, i * 2 + 1, none⟩ = false := by
  subst hn
  have hl : (ps.map Pg.arr).length = ps.length := List.length_map ..
  have h0 : w.ownsRow base 56 2 (.slice (some ⟨g, 0, none⟩) ps.length c) ps.length (flat (ps.map Pg.arr)) := by
    have := h
    unfold Ow at this
    rwa [hl] at this
  have hfl : (flat (ps.map Pg.arr)).length = ps.length * 2 := by rw [flat_len (Pg.sized ps), hl]
  have hsame : (flat (ps.map Pg.arr)).set (i * 2) (.int .i64 p.1) = flat (ps.map Pg.arr) := by
    apply List.ext_getElem?
    intro j
    rw [List.getElem?_set]
    split
    · rename_i e
      subst e
      have := flat_at (Pg.sized ps) i (by rw [hl]; exact hi) 0 (by omega)
      rw [Nat.add_zero, List.getElem_map] at this
      rw [if_pos (by omega), this, hp]
      rfl
    · rfl
  refine ⟨?_, ?_, h0.frozenAt _⟩
  · have h2 := (h0.stored (i * 2 + 1) p.2.cell).1
    unfold Ow
    rw [List.length_map, List.length_set, flat_set2 ps i p hi, hsame]
    exact h2
  · rw [h0.cellAt (i * 2 + 1) (by omega), List.getElem?_eq_getElem (by omega)]; simp
/-- pages of all payloads of a row -/
theorem pages_all (A : Option Addr) (c n : Nat) (L : List (List Int)) (w : World) (hn : n = L.length) (hC : RC w A n L) (hc : n ≤ c) (hne : ∀ r ∈ L, r ≠ [] ∧ OkB r ∧ r.length ≤ 1000000) (hl : n ≤ 1000) :
    Calls Try.prog 18 #[.slice A n c, .slice none 0 0] w fun x w' => ∃ A' c' ps, x = .returned (.slice A' n c') ∧ n ≤ c' ∧ ps.map qOf = pagesQ L [] ∧ PgsAt w ps ∧ Ow w' w.heap.size 56 2 (.slice A' n c') (ps.map Pg.arr) ∧ Below w.heap.size w w' :=
  pages_any A none c 0 n 0 L [] w hn rfl hC hc hne hl Sl.nil (by omega) (by simp)
set_option maxRecDepth 100000 in
set_option maxHeartbeats 8000000 in
theorem place_walk (a1 a2 a3 a4 : Int) (A : Option Addr) (c N : Nat) (es : List Ent) (w : World) (h1 : I64 a1) (h2 : I64 a2) (h3 : I64 a3) (h4 : I64 a4) (hN : N = es.length) (hc : N ≤ c) (hm : c ≤ maxLen) (hs : Sl w 0 w.heap.size 19 A (es.map Ent.arr)) (hwf : ∀ e ∈ es, e.Wf) :
    Calls Try.prog 7 #[.slice A N c, .int .i64 a1, .int .i64 a2, .int .i64 a3, .int .i64 a4] w fun e w' => e = .returned (.bool true) ∧ Below w.heap.size w w' := by
  obtain ⟨u, hu, hw1⟩ := w11_lt a1 100 h1 (by omega) (by omega)
  obtain ⟨t, ht, hw2⟩ := w11_lt a2 100 h2 (by omega) (by omega)
  obtain ⟨o, ho50, hw3⟩ := w11_lt a3 50 h3 (by omega) (by omega)
  obtain ⟨j, hj, hw4⟩ := w11_lt a4 6 h4 (by omega) (by omega)
  obtain ⟨es1, hes1⟩ : ∃ es1, es1 = (es.take 4).map goodE := ⟨_, rfl⟩
  obtain ⟨hwf1, hok1⟩ := okw_good hes1 hwf
  have hl1 : es1.length ≤ 4 := by rw [hes1, List.length_map, List.length_take]; omega
  have hsl := fun (W : World) hsW => slots_own A c 4 N 4 es es1 W rfl hes1 (by omega) hN hc hm hwf hsW
  clear hes1 hwf
  generalize hn1 : es1.length = n1 at hl1 hsl
  have henc := fun (s : Int) (A' : Option Addr) (c' : Nat) (W : World) (hs1 : 1 ≤ s ∧ s ≤ 1099511627776) hcc hsW => rencode_row 6 4 s u t A' c' n1 es1 W (by omega) (by omega) hs1 (by omega) (by omega) hn1.symm hl1 hwf1 hok1 hcc hsW
  obtain ⟨fa1, fa2⟩ := full_fit 5 u t es1 4 hwf1
  obtain ⟨fb1, fb2⟩ := full_fit 6 u t es1 4 hwf1
  obtain ⟨La, hLa⟩ : ∃ La, La = fullE 5 u t es1 4 := ⟨_, rfl⟩
  obtain ⟨Lb, hLb⟩ : ∃ Lb, Lb = fullE 6 u t es1 4 := ⟨_, rfl⟩
  have hCa : Cd.Code La 48 4 := by rw [hLa]; exact code_full 5 u t es1 4 hwf1
  have hCb : Cd.Code Lb 48 4 := by rw [hLb]; exact code_full 6 u t es1 4 hwf1
  have hoth := fun (u' a' : Int) (ps : List Pg) (hq : ps.map qOf = pagesQ La []) hne => dec_other (s := 5) (u := u) (a := t) (u' := u') (a' := a') (most := 1) (es := es1) (m := 4) (ps := ps) (by omega) (by omega) (by omega) (by omega) hwf1 hok1 (by omega) (by omega) (by rw [← hLa]; exact hq) hne
  have hsame := fun (ps : List Pg) (hq : ps.map qOf = pagesQ La []) => decP_back (s := 5) (u := u) (a := t) (most := 1) (es := es1) (m := 4) (P := []) (ps := ps) (by omega) (by omega) (by omega) (by omega) hwf1 hok1 (ok_nil 6) (by omega) (by omega) (by rw [← hLa]; exact hq)
  have henc5 := fun A' c' W => henc 5 A' c' W (by omega)
  have henc6 := fun A' c' W => henc 6 A' c' W (by omega)
  rw [← hLa] at fa1 fa2 henc5
  rw [← hLb] at fb1 fb2 henc6
  have hpg := fun (A' : Option Addr) (c' : Nat) (W : World) hC hcc => pages_all A' c' 6 La W fa1.symm hC hcc fa2 (by omega)
  clear henc hLa hLb
  replace hCa := hide hCa
  replace hCb := hide hCb
  replace hn1 := hide hn1
  replace hwf1 := hide hwf1
  replace hok1 := hide hok1
  replace fa1 := hide fa1
  replace fa2 := hide fa2
  replace fb1 := hide fb1
  replace fb2 := hide fb2
  replace hN := hide hN
  replace hoth := hide hoth
  replace hsame := hide hsame
  go_enter Try.func7, Try.ntmps7
  go_wp2_with fail
  refine (known_any _).mono ?_
  rintro e w1 ⟨rfl, hb1⟩
  go_wp2_with fail
  refine (hw1 _).mono ?_
  rintro e wq ⟨rfl, rfl⟩
  go_wp2_with fail
  refine (hw2 _).mono ?_
  rintro e wq ⟨rfl, rfl⟩
  have hslw := hsl _ ((hs.below hb1).more hb1.size)
  go_wp2_with fail
  (with_reducible refine hslw.mono ?_)
  rintro x w2 ⟨A2, c2, rfl, hc2, ho2, hb2'⟩
  have hb2 := hb1.trans (hb2'.mono hb1.size)
  have hen := henc5 A2 c2 w2 hc2 ((ho2.sl (Ent.sized _) (by omega)).less (Nat.zero_le _))
  clear hslw ho2 hb2'
  go_wp2_with fail
  (with_reducible refine hen.mono ?_)
  rintro x w3 ⟨A3, c3, rfl, hc3, hC3, hb3'⟩
  have hb3 := hb2.trans (hb3'.mono hb2.size)
  have hslw := hsl _ ((hs.below hb3).more hb3.size)
  clear hen hb3' henc5
  go_wp2_with fail
  (with_reducible refine hslw.mono ?_)
  rintro x w4 ⟨A4, c4, rfl, hc4, ho4, hb4'⟩
  have hb4 := hb3.trans (hb4'.mono hb3.size)
  have hC4 : RC w4 A3 6 La := Kd.C_below hC3 hb4'
  have hen := henc6 A4 c4 w4 hc4 ((ho4.sl (Ent.sized _) (by omega)).less (Nat.zero_le _))
  clear hslw ho4 hb4' hsl hC3
  go_wp2_with fail
  (with_reducible refine hen.mono ?_)
  rintro x w5 ⟨A5, c5, rfl, hc5, hC5, hb5'⟩
  have hb5 := hb4.trans (hb5'.mono hb4.size)
  have hCa5 : RC w5 A3 6 La := Kd.C_below hC4 hb5'
  have hCb5 : RC w5 A5 6 Lb := hC5
  clear hen hb5' henc6 hC4 hC5
  go_wp2_with fail
  refine (hw3 _).mono ?_
  rintro e wq ⟨rfl, rfl⟩
  have hpgw := hpg A3 c3 w5 hCa5 hc3
  go_wp2_with fail
  (with_reducible refine hpgw.mono ?_)
  rintro x w6 ⟨A6, c6, ps6, rfl, hc6, hq6, hp6, ho6, hb6'⟩
  have hb6 := hb5.trans (hb6'.mono hb5.size)
  obtain ⟨l6, d6⟩ := (unhide hoth) ((u : Int) + (1 + (o : Int))) t ps6 hq6 (.inl (by omega))
  have hdec := decode_all ((u : Int) + (1 + (o : Int))) t 1 A6 c6 6 ps6 w6 l6.symm (pages_i64 hq6 (by simp)) hc6 ((ho6.sl (Pg.sized _) (by omega)).less (Nat.zero_le _)) (hp6.below hb6')
  rw [d6] at hdec
  have hCa6 : RC w6 A3 6 La := Kd.C_below hCa5 hb6'
  have hCb6 : RC w6 A5 6 Lb := Kd.C_below hCb5 hb6'
  clear hpgw hq6 hp6 ho6 hb6' l6 d6 hCa5 hCb5
  go_wp2_with fail
  (with_reducible refine hdec.mono ?_)
  rintro x w7 ⟨hx7, hb7'⟩
  have hx7' : x = .returned (.tuple #[.agg #[.int .i64 0, .int .i64 0, .slice none 0 0], .int .i64 5]) := hx7
  subst hx7'
  have hb7 := hb6.trans (hb7'.mono hb6.size)
  obtain ⟨W7, hW7⟩ : ∃ W7, W7 = w7.alloc (Obj.cells #[.int .i64 0, .int .i64 0, .slice none 0 0] 37) := ⟨_, rfl⟩
  have hb77 : Below w7.heap.size w7 W7 := by rw [hW7]; exact (Below.refl _ _).alloc (Nat.le_refl _) _
  have hbW7 := hb7.trans (hb77.mono hb7.size)
  have hCa7 : RC W7 A3 6 La := Kd.C_below (Kd.C_below hCa6 hb7') hb77
  have hCb7 : RC W7 A5 6 Lb := Kd.C_below (Kd.C_below hCb6 hb7') hb77
  have hpgw := hpg A3 c3 W7 hCa7 hc3
  clear hdec hx7 hb7' hCa6 hCb6 hb77
  go_wp2_with fail
  rw [← hW7]
  clear hW7
  (with_reducible refine hpgw.mono ?_)
  rintro x w8 ⟨A8, c8, ps8, rfl, hc8, hq8, hp8, ho8, hb8'⟩
  have hb8 := hbW7.trans (hb8'.mono hbW7.size)
  obtain ⟨l8, d8⟩ := (unhide hoth) u ((t : Int) + (1 + (o : Int))) ps8 hq8 (.inr (by omega))
  have hdec := decode_all (u : Int) ((t : Int) + (1 + (o : Int))) 1 A8 c8 6 ps8 w8 l8.symm (pages_i64 hq8 (by simp)) hc8 ((ho8.sl (Pg.sized _) (by omega)).less (Nat.zero_le _)) (hp8.below hb8')
  rw [d8] at hdec
  have hCa8 : RC w8 A3 6 La := Kd.C_below hCa7 hb8'
  have hCb8 : RC w8 A5 6 Lb := Kd.C_below hCb7 hb8'
  clear hpgw hq8 hp8 ho8 hb8' l8 d8 hCa7 hCb7
  go_wp2_with fail
  (with_reducible refine hdec.mono ?_)
  rintro x w9 ⟨hx9, hb9'⟩
  have hx9' : x = .returned (.tuple #[.agg #[.int .i64 0, .int .i64 0, .slice none 0 0], .int .i64 5]) := hx9
  subst hx9'
  have hb9 := hb8.trans (hb9'.mono hb8.size)
  obtain ⟨W9, hW9⟩ : ∃ W9, W9 = w9.alloc (Obj.cells #[.int .i64 0, .int .i64 0, .slice none 0 0] 37) := ⟨_, rfl⟩
  have hb99 : Below w9.heap.size w9 W9 := by rw [hW9]; exact (Below.refl _ _).alloc (Nat.le_refl _) _
  have hbW9 := hb9.trans (hb99.mono hb9.size)
  have hCa9 : RC W9 A3 6 La := Kd.C_below (Kd.C_below hCa8 hb9') hb99
  have hCb9 : RC W9 A5 6 Lb := Kd.C_below (Kd.C_below hCb8 hb9') hb99
  have hpgw := hpg A3 c3 W9 hCa9 hc3
  clear hdec hx9 hb9' hCa8 hCb8 hb99
  go_wp2_with fail
  rw [← hW9]
  clear hW9
  (with_reducible refine hpgw.mono ?_)
  rintro x w10 ⟨A10, c10, ps10, rfl, hc10, hq10, hp10, ho10, hb10'⟩
  have hb10 := hbW9.trans (hb10'.mono hbW9.size)
  have hCa10 : RC w10 A3 6 La := Kd.C_below hCa9 hb10'
  have hCb10 : RC w10 A5 6 Lb := Kd.C_below hCb9 hb10'
  obtain ⟨adb, A0, c0, eb, hcb, hcb0, hsb0⟩ := hCb9.at_ j (by omega)
  have hcb10 := pw_cell_below hb10' hcb
  obtain ⟨rb, hrb⟩ : ∃ rb, rb = row Lb j := ⟨_, rfl⟩
  have gb := Tw.good_row (unhide hCb).good (i := j) (by rw [(unhide hCb).len]; omega)
  rw [← hrb] at hcb hcb0 hsb0 hcb10 gb
  have hpb : PgOk W9 (2, A0, c0, rb) := ⟨hcb0, by have := gb.1; show rb.length ≤ 1000000; omega, hsb0, fun a ha => by
    obtain ⟨b1, o1, e, _, h2, _⟩ := hsb0.pos (by rw [By.len, gb.1]; omega)
    have ha' : A0 = some a := ha
    rw [ha'] at e; injection e with e; subst e
    exact h2, gb.2⟩
  subst eb
  obtain ⟨bl, hbl⟩ : ∃ bl, bl = rb.length := ⟨_, rfl⟩
  have hbc : Hr.cell (A0, c0, rb) = .slice A0 bl c0 := by rw [hbl]; rfl
  rw [← hbl] at hcb10
  have l10 : ps10.length = 6 := by
    have := congrArg List.length hq10
    rwa [List.length_map, pagesQ_len, unhide fa1] at this
  have st10 : ((2, A0, c0, rb) : Pg).1 = (ps10[j]'(by omega)).1 := by
    obtain ⟨_, hat⟩ := pages_at hq10 (by simp)
    have := congrArg Prod.fst (hat j (by omega))
    rw [if_neg (by simp)] at this
    exact this.symm
  obtain ⟨g, rfl, hgb, hgl, hjunk⟩ := ho10.some_of (by omega)
  clear hjunk
  obtain ⟨ho11, n11, f11⟩ := ho10.setPgB l10.symm j (by omega) (2, A0, c0, rb) st10
  obtain ⟨v11, n11⟩ := some_of_ne n11
  rw [hbc] at ho11
  have hb1011 : Below W9.heap.size W9 (w10.setCell ⟨g, j * 2 + 1, none⟩ (.slice A0 bl c0)) := hb10'.setCell hgb _
  have hb11 : Below w.heap.size w (w10.setCell ⟨g, j * 2 + 1, none⟩ (.slice A0 bl c0)) := hbW9.trans (hb1011.mono hbW9.size)
  have hCa11 : RC (w10.setCell ⟨g, j * 2 + 1, none⟩ (.slice A0 bl c0)) A3 6 La := Kd.C_below hCa9 hb1011
  have hCb11 : RC (w10.setCell ⟨g, j * 2 + 1, none⟩ (.slice A0 bl c0)) (some adb) 6 Lb := Kd.C_below hCb9 hb1011
  have hp11 : PgsAt W9 (ps10.set j (2, A0, c0, rb)) := hp10.set j hpb
  have i11 : ∀ p ∈ ps10.set j (2, A0, c0, rb), I64 p.1 := fun p hp => by
    rcases List.mem_or_eq_of_mem_set hp with h | h
    · exact pages_i64 hq10 (by simp) p h
    · rw [h]; exact (⟨by omega, by omega⟩ : I64 2)
  have hdec := decode_all (u : Int) t 1 (some ⟨g, 0, none⟩) c10 6 (ps10.set j (2, A0, c0, rb)) _ (by rw [List.length_set]; exact l10.symm) i11 hc10 ((ho11.sl (Pg.sized _) (by omega)).less (Nat.zero_le _)) (hp11.below hb1011)
  obtain ⟨cd, hcd⟩ : ∃ cd, cd = (decP (u : Int) t (ps10.set j (2, A0, c0, rb)) 1).1 := ⟨_, rfl⟩
  have hcode : row La j ≠ rb → cd = 5 := fun hne => by
    obtain ⟨_, d2, _⟩ := dec_wrong (u := (u : Int)) (a := (t : Int)) (most := 1) (m := 4) (k := j) (P := []) (ps := ps10) (b := rb) (p' := (2, A0, c0, rb)) (unhide hCa) (by omega) ⟨by simp, by simp, by simp⟩ (by omega) (by simp) (by simp) (by omega) hq10 rfl gb.1 gb.2 (fun e => hne e.symm)
    rw [hcd, d2]
  have hdec2 : Calls Try.prog 17 #[.int .i64 u, .int .i64 t, .slice (some ⟨g, 0, none⟩) 6 c10, .int .i64 1] (w10.setCell ⟨g, j * 2 + 1, none⟩ (.slice A0 bl c0)) fun x w' => (∃ (s1 a1 : Int) (A1 : Option Addr) (n1 c1 : Nat), x = .returned (.tuple #[.agg #[.int .i64 s1, .int .i64 a1, .slice A1 n1 c1], .int .i64 cd])) ∧ Below (w10.setCell ⟨g, j * 2 + 1, none⟩ (.slice A0 bl c0)).heap.size (w10.setCell ⟨g, j * 2 + 1, none⟩ (.slice A0 bl c0)) w' := hdec.mono fun x w' h => ⟨by rw [hcd]; exact h.1.form, h.2⟩
  have hjI : (j : Int) < 6 := by omega
  have hj0 : (0 : Int) ≤ j := by omega
  have hg10 : g < w10.heap.size := hgl
  clear hpgw hq10 hp10 ho10 hb10' hdec hcd i11 hp11 ho11 hCa9 hCb9 hcb hcb0 hsb0 hpb hbc st10 l10 hCa10 hCb10 hb1011
  replace hcode := hide hcode
  replace hrb := hide hrb
  replace hbl := hide hbl
  replace gb := hide gb
  go_wp2_with fail
  refine (hw4 _).mono ?_
  rintro e wq ⟨rfl, rfl⟩
  go_wp2_with fail
  (with_reducible refine hdec2.mono ?_)
  rintro x w12 ⟨⟨s1, b1, A12, n12, c12, rfl⟩, hb12'⟩
  have hb12 := hb11.trans (hb12'.mono hb11.size)
  obtain ⟨W12, hW12⟩ : ∃ W12, W12 = w12.alloc (Obj.cells #[.int .i64 s1, .int .i64 b1, .slice A12 n12 c12] 37) := ⟨_, rfl⟩
  have hb122 : Below w12.heap.size w12 W12 := by rw [hW12]; exact (Below.refl _ _).alloc (Nat.le_refl _) _
  have hbW12 := hb12.trans (hb122.mono hb12.size)
  have hCa12 : RC W12 A3 6 La := Kd.C_below (Kd.C_below hCa11 hb12') hb122
  have hCb12 : RC W12 (some adb) 6 Lb := Kd.C_below (Kd.C_below hCb11 hb12') hb122
  have hpgw := hpg A3 c3 W12 hCa12 hc3
  clear hdec2 hb12' hb122 hCa11 hCb11 hcb10 n11 f11 hgl hgb hg10
  go_wp2_with fail
  rw [← hW12]
  clear hW12
  (with_reducible refine hpgw.mono ?_)
  rintro x w13 ⟨A13, c13, ps13, rfl, hc13, hq13, hp13, ho13, hb13'⟩
  have hb13 := hbW12.trans (hb13'.mono hbW12.size)
  obtain ⟨l13, d13⟩ := (unhide hsame) ps13 hq13
  have hdec := decode_all (u : Int) (t : Int) 1 A13 c13 6 ps13 w13 l13.symm (pages_i64 hq13 (by simp)) hc13 ((ho13.sl (Pg.sized _) (by omega)).less (Nat.zero_le _)) (hp13.below hb13')
  rw [d13, if_neg (by simp)] at hdec
  have hCa13 : RC w13 A3 6 La := Kd.C_below hCa12 hb13'
  have hCb13 : RC w13 (some adb) 6 Lb := Kd.C_below hCb12 hb13'
  clear hpgw hq13 hp13 ho13 hb13' l13 d13 hCa12 hCb12
  go_wp2_with fail
  (with_reducible refine hdec.mono ?_)
  rintro x w14 ⟨hx14, hb14'⟩
  obtain ⟨A14, c14, hx14', hc14, hs14⟩ := hx14
  simp only [padE_len] at hx14' hc14
  subst hx14'
  have hb14 := hb13.trans (hb14'.mono hb13.size)
  obtain ⟨W14, hW14⟩ : ∃ W14, W14 = w14.alloc (Obj.cells #[.int .i64 5, .int .i64 t, .slice A14 4 c14] 37) := ⟨_, rfl⟩
  have hb144 : Below w14.heap.size w14 W14 := by rw [hW14]; exact (Below.refl _ _).alloc (Nat.le_refl _) _
  have hbW14 := hb14.trans (hb144.mono hb14.size)
  have hCa14 : RC W14 A3 6 La := Kd.C_below (Kd.C_below hCa13 hb14') hb144
  have hCb14 : RC W14 (some adb) 6 Lb := Kd.C_below (Kd.C_below hCb13 hb14') hb144
  clear hdec hb14' hb144 hCa13 hCb13 hs14 hc14
  obtain ⟨ada, Aa, ca, rfl, hca, hca0, hsa0⟩ := hCa14.at_ j (by omega)
  obtain ⟨adb', Ab, cb, eb, hcb, hcb0, hsb0⟩ := hCb14.at_ j (by omega)
  injection eb with eb
  subst eb
  have hcva := fun n => Kd.C_string (P := Try.prog) (A := Aa) (c := ca) Try.underlying47 Try.underlying5 Try.underlying9 (Kd.C_drewN (C_of_by (by have := (Tw.good_row (unhide hCa).good (i := j) (by rw [(unhide hCa).len]; omega)).1; omega) hsa0) n)
  have hcvb := fun n => Kd.C_string (P := Try.prog) (A := Ab) (c := cb) Try.underlying47 Try.underlying5 Try.underlying9 (Kd.C_drewN (C_of_by (by have := (Tw.good_row (unhide hCb).good (i := j) (by rw [(unhide hCb).len]; omega)).1; omega) hsb0) n)
  have hbF := fun n => hbW14.trans (show Below w.heap.size W14 (W14.drewN n) from ⟨rfl, rfl, rfl, Nat.le_refl _, fun _ _ => rfl⟩)
  clear hCa14 hCb14 hca0 hcb0 hsa0 hsb0
  by_cases hcd5 : cd = 5
  · subst hcd5
    go_wp2_with fail
    rw [← hW14]
    clear hW14
    go_quiet (fail)
    go_wp2
    go_ret
    exact ⟨rfl, hbF _⟩
  · have heq : row La j = row Lb j := by
      rw [← unhide hrb]
      exact Classical.byContradiction (fun hne => hcd5 ((unhide hcode) hne))
    have hcd5' : decide (cd = 5) = false := decide_eq_false hcd5
    have hcd5'' : (cd == 5) = false := by rw [beq_eq_false_iff_ne]; exact hcd5
    rw [heq] at hca hcva
    have ht : ((strOfNums (row Lb j)).toList == (strOfNums (row Lb j)).toList) = true := by simp
    clear heq
    go_wp2_with fail
    rw [← hW14]
    clear hW14
    go_quiet (fail)
    go_wp2
    go_ret
    exact ⟨rfl, hbF _⟩
end Go.Proofs.Ytibileffpgnjhaa.Base
