/-
  Parts of a proof, laid together by a program of mine (pack.py): Ps.
-/
import Derived.Laws.OwnMore
import Derived.Test.YtodbmgafejclmaaZD23
namespace Go.Proofs.Ytodbmgafejclmaa.Base
open Go.RowKit Go.Maps Go.Proofs.YtodbmgafejclmaaW.PrintWords Go.Proofs.YtodbmgafejclmaaW.PrintLast
open Go.Proofs.Ytodbmgafejclmaa.Fld Go.Proofs.Ytodbmgafejclmaa.Pl
set_option linter.unusedSimpArgs false
set_option linter.unusedVariables false
/-- a page, plainly -/
abbrev Qg := Int × List Int
def qOf (p : Pg) : Qg := (p.1, p.2.2.2)
def badPg : Pg := (1, none, 0, [])
def blankPg : Pg := (0, none, 0, [])
def PgsAt (w : World) (ps : List Pg) : Prop := ∀ p ∈ ps, PgOk w p
theorem PgOk.bad (w : World) (s : Int) : PgOk w (s, none, 0, []) := by
  refine ⟨Nat.le_refl _, by simp, Sl.nil, fun a h => ?_, fun x hx => ?_⟩
  · cases h
  · cases hx
theorem PgsAt.below {w w' : World} {ps : List Pg} (h : PgsAt w ps) (hb : Below w.heap.size w w') : PgsAt w' ps := fun p hp => (h p hp).below hb
theorem PgsAt.set {w : World} {ps : List Pg} (h : PgsAt w ps) (i : Nat) {p : Pg} (hp : PgOk w p) : PgsAt w (ps.set i p) := fun q hq => by
  rcases List.mem_or_eq_of_mem_set hq with h1 | h1
  · exact h q h1
  · rw [h1]; exact hp
/-- payloads as pages; of those that are lost bad ones -/
def setQ (q : List Qg) (l : List Int) (z : Qg) : List Qg := l.foldl (fun q i => q.set i.toNat z) q
def pagesQ (L : List (List Int)) (lost : List Int) : List Qg := setQ (L.map fun b => (2, b)) lost (1, [])
theorem setQ_len (l : List Int) (z : Qg) : ∀ q, (setQ q l z).length = q.length := by
  induction l with
  | nil => intro q; rfl
  | cons i l ih => intro q; show (setQ (q.set i.toNat z) l z).length = _; rw [ih, List.length_set]
theorem setQ_snoc (q : List Qg) (l : List Int) (x : Int) (z : Qg) : setQ q (l ++ [x]) z = (setQ q l z).set x.toNat z := by
  unfold setQ; rw [List.foldl_append]; rfl
theorem Pg.sized (ps : List Pg) : Sized 2 (ps.map Pg.arr) := fun x hx => by obtain ⟨p, _, rfl⟩ := List.mem_map.1 hx; rfl
theorem Pg.ones (ps : List Pg) : Ones (ps.map Pg.arr) := fun x hx v hv => by
  obtain ⟨p, _, rfl⟩ := List.mem_map.1 hx
  simp only [Pg.arr, List.mem_cons, List.not_mem_nil, or_false] at hv
  rcases hv with rfl | rfl <;> rfl
set_option maxRecDepth 100000 in
theorem info_pg : (Try.prog.info? 35).map (fun i => (i.zero, i.size, i.bytes)) = some (some (.agg #[.int .i64 0, .slice none 0 0]), 2, 32) := by kernel_rfl
theorem run_append_pg (w : World) (base n : Nat) (v : Value) (es fs : List Pg) (hown : Ow w base 35 2 v (es.map Pg.arr)) (hn : es.length = n) (L B : Nat) (A : Option Addr) (m c : Nat) (hy : Sl w L B 2 A (fs.map Pg.arr)) (hm : fs.length = m)
    (hsm : n + m ≤ 1000000) (hbase : base ≤ w.heap.size) (ty : TypeId) :
    ∃ A' c' w', (Builtin.append_ #[33, 33] ty #[v, .slice A m c]).run Try.prog w = .ok (.slice A' (n + m) c') w' ∧ Ow w' base 35 2 (.slice A' (n + m) c') ((es ++ fs).map Pg.arr) ∧ w.grownBy w' v.ownBlock ∧ n + m ≤ c' := by
  obtain ⟨i0, hi0, hz0, hz1, hz2⟩ := info_parts info_pg
  obtain ⟨A', c', w', h1, h2, h3, h4⟩ := run_append_ow (P := Try.prog) w base 33 ty 35 i0 _ 2 32 Try.underlying33 hi0 hz0 hz1 hz2 rfl (by omega) v (es.map Pg.arr) hown L B A m c (fs.map Pg.arr) hy
    (Pg.sized fs) (Pg.ones fs) (by simpa using hm) (by rw [List.length_map, hn]; unfold maxLen; omega) (by rw [List.length_map, hn]; omega) hbase
  rw [List.length_map, hn] at h1 h2 h4
  exact ⟨A', c', w', h1, by rw [List.map_append]; exact h2, h3, h4⟩
theorem flat_set2 : ∀ (ps : List Pg) (i : Nat) (p : Pg), i < ps.length → flat ((ps.set i p).map Pg.arr) = ((flat (ps.map Pg.arr)).set (i * 2) (.int .i64 p.1)).set (i * 2 + 1) p.2.cell
  | [], i, p, h => by simp at h
  | q :: ps, 0, p, _ => by simp [flat, Pg.arr]
  | q :: ps, i + 1, p, h => by
    have ih := flat_set2 ps i p (by simpa using h)
    have e : ∀ x : Pg, ∀ l : List Pg, flat ((x :: l).map Pg.arr) = .int .i64 x.1 :: x.2.cell :: flat (l.map Pg.arr) := fun x l => rfl
    rw [List.set_cons_succ, e, e, ih, show (i + 1) * 2 = (i * 2 + 1) + 1 from by omega]
    simp only [List.set_cons_succ]
theorem Ow.some_of {w : World} {base : Nat} {e : TypeId} {sz n c : Nat} {A : Option Addr} {xs : List (Array Value)} (h : Ow w base e sz (.slice A n c) xs) (hp : 0 < n) : ∃ g, A = some ⟨g, 0, none⟩ ∧ base ≤ g ∧ g < w.heap.size ∧ n = xs.length := by
  obtain ⟨A', c', hv, _⟩ := h.form
  injection hv with e1 e2 e3
  rcases h.2 with ⟨h0, _⟩ | ⟨g, cap, cur, h0, h1, h2, _⟩
  · injection h0 with _ h0 _
    omega
  · injection h0 with h0 _ _
    exact ⟨g, h0, h1, (Array.getElem?_eq_some_iff.1 h2).1, e2⟩
theorem Ow.setPg {w : World} {base g n c : Nat} {ps : List Pg} (h : Ow w base 35 2 (.slice (some ⟨g, 0, none⟩) n c) (ps.map Pg.arr)) (hn : n = ps.length) (i : Nat) (hi : i < n) (p : Pg) :
    Ow ((w.setCell ⟨g, i * 2, none⟩ (.int .i64 p.1)).setCell ⟨g, i * 2 + 1, none⟩ p.2.cell) base 35 2 (.slice (some ⟨g, 0, none⟩) n c) ((ps.set i p).map Pg.arr) ∧
    w.cell? ⟨g, i * 2, none⟩ ≠ none ∧ w.cell? ⟨g, i * 2 + 1, none⟩ ≠ none ∧ w.frozen? ⟨g, i * 2, none⟩ = false ∧ w.frozen? ⟨g, i * 2 + 1, none⟩ = false := by
  subst hn
  have hl : (ps.map Pg.arr).length = ps.length := List.length_map ..
  have h0 : w.ownsRow base 35 2 (.slice (some ⟨g, 0, none⟩) ps.length c) ps.length (flat (ps.map Pg.arr)) := by
    have := h
    unfold Ow at this
    rwa [hl] at this
  have hfl : (flat (ps.map Pg.arr)).length = ps.length * 2 := by rw [flat_len (Pg.sized ps), hl]
  refine ⟨?_, ?_, ?_, h0.frozenAt _, h0.frozenAt _⟩
  · have h1 := (h0.stored (i * 2) (.int .i64 p.1)).1
    have h2 := (h1.stored (i * 2 + 1) p.2.cell).1
    unfold Ow
    rw [List.length_map, List.length_set, flat_set2 ps i p hi]
    exact h2
  · rw [h0.cellAt (i * 2) (by omega), List.getElem?_eq_getElem (by omega)]; simp
  · rw [h0.cellAt (i * 2 + 1) (by omega), List.getElem?_eq_getElem (by omega)]; simp
theorem some_of_ne {α : Type} {o : Option α} (h : o ≠ none) : ∃ x, o = some x := by cases o with | none => exact absurd rfl h | some x => exact ⟨x, rfl⟩
/-- pages whose bytes lie in new blocks -/
def LowP (b : Nat) (ps : List Pg) : Prop := ∀ p ∈ ps, ∀ a, p.2.1 = some a → b ≤ a.block
set_option maxRecDepth 100000 in
set_option maxHeartbeats 2000000 in
theorem pages_low (b0 : Nat) (A A1 : Option Addr) (c c1 n m : Nat) (L : List (List Int)) (lost : List Int) (w : World) (hn : n = L.length) (hm : m = lost.length) (hC : RC w A n L) (hc : n ≤ c) (hne : ∀ r ∈ L, r ≠ [] ∧ OkB r ∧ r.length ≤ 1000000) (hl : n ≤ 1000)
    (hs : Sl w 0 w.heap.size 1 A1 (In lost)) (hlm : m ≤ 1000) (hin : ∀ x ∈ lost, 0 ≤ x ∧ x < n) (hlw : ∀ j, j < n → ∀ ad A0 l0 c0, A = some ad → w.cell? (ad.add j) = some (.slice A0 l0 c0) → ∀ a, A0 = some a → b0 ≤ a.block) :
    Calls Try.prog 18 #[.slice A n c, .slice A1 m c1] w fun x w' => ∃ A' c' ps, x = .returned (.slice A' n c') ∧ n ≤ c' ∧ ps.map qOf = pagesQ L lost ∧ PgsAt w ps ∧ Ow w' w.heap.size 35 2 (.slice A' n c') (ps.map Pg.arr) ∧ Below w.heap.size w w' ∧ LowP b0 ps := by
  replace hn := hide hn
  replace hm := hide hm
  replace hne := hide hne
  replace hin := hide hin
  go_enter Try.func18, Try.ntmps18
  go_wp2_with fail
  go_loopw [5, 6] (fun s5 s6 wr => ∃ (j : Nat) (A5 : Option Addr) (c5 : Nat) (ps : List Pg), j ≤ n ∧ s6 = .int .i64 j ∧ s5 = .slice A5 j c5 ∧ j ≤ c5 ∧ Hid (ps.map qOf = (L.take j).map fun b => (2, b)) ∧ Hid (PgsAt w ps ∧ LowP b0 ps) ∧ Hid (ps.length = j) ∧ Ow wr w.heap.size 35 2 (.slice A5 j c5) (ps.map Pg.arr) ∧ Below w.heap.size w wr) (fun _ s6 _ => n - (intOf s6).toNat)
  case atStart => exact ⟨0, none, 0, [], by omega, rfl, rfl, by omega, rfl, ⟨fun p hp => by simp at hp, fun p hp => by simp at hp⟩, rfl, Ow.nil _ _ _ _, Below.refl _ _⟩
  case round =>
    obtain ⟨j, A5, c5, ps, hj, rfl, rfl, hc5, hq, hpg, hpl, ho, hb⟩ := hrel
    have hz := hb.size
    by_cases hlt : j < n
    · have hltI : (j : Int) < n := by omega
      have hjl : j < L.length := by rw [← unhide hn]; exact hlt
      obtain ⟨ad, A0, c0, rfl, hcell, hl0, hs0⟩ := RC.at_ (Kd.C_below hC hb) j hlt
      have hs00 := (RC.at_ hC j hlt)
      have hrow := (unhide hne) (row L j) (by rw [row_lt hjl]; exact List.getElem_mem hjl)
      have htk : L.take (j + 1) = L.take j ++ [row L j] := by rw [row_lt hjl, List.take_succ_eq_append_getElem hjl]
      obtain ⟨ad', A0', c0', e1, hcell', hl0', hs0'⟩ := hs00
      injection e1 with e1
      subst e1
      have hlj := hlw j hlt _ _ _ _ rfl hcell'
      have hsame := (pw_cell_below hb hcell').symm.trans hcell
      injection hsame with hsame
      injection hsame with e1 _ e3
      subst e1 e3
      replace hlj := hide hlj
      generalize row L j = b at hcell hl0 hs0 hrow htk hcell' hl0' hs0'
      have hXk : PgOk w (2, A0', c0', b) := ⟨hl0', hrow.2.2, hs0', fun a ha => by
        obtain ⟨b1, o1, e, _, h2, _⟩ := hs0'.pos (by rw [By.len]; exact List.length_pos_iff.2 hrow.1)
        have ha' : A0' = some a := ha
        rw [ha'] at e; injection e with e; subst e
        exact h2, hrow.2.1⟩
      obtain ⟨bl, hbl⟩ : ∃ bl, bl = b.length := ⟨_, rfl⟩
      rw [← hbl] at hcell
      have hpgn : Pg.arr (2, A0', c0', b) = #[.int .i64 2, .slice A0' bl c0'] := by rw [hbl]; rfl
      obtain ⟨A6, c6, w6, hrun, ho6, hg6, hc6⟩ := run_append_pg (wr.alloc (.cells #[.int .i64 2, .slice A0' bl c0'] 35)) w.heap.size j (.slice A5 j c5) ps [(2, A0', c0', b)] (ho.alloc _) (unhide hpl) 0 (wr.heap.size + 1) (some ⟨wr.heap.size, 0, none⟩) 1 1 (by rw [List.map_cons, hpgn]; exact Sl.one (rd_new_whole _ _ _ _ _ _ rfl rfl) (Nat.zero_le _) (Nat.lt_succ_self _)) rfl (by omega) (by simp; omega) 33
      have hb6 : Below w.heap.size w w6 := below_grown (hb.alloc hz _) hg6 (by simp; omega) (fun k ek => (ho.lt k ek).1)
      have hq6 : (ps ++ [(2, A0', c0', b)]).map qOf = (L.take (j + 1)).map fun b => (2, b) := by rw [htk, List.map_append, List.map_append, unhide hq]; rfl
      have hp6 : PgsAt w (ps ++ [(2, A0', c0', b)]) ∧ LowP b0 (ps ++ [(2, A0', c0', b)]) := ⟨fun p hp => by
        rcases List.mem_append.1 hp with h | h
        · exact (unhide hpg).1 p h
        · rw [List.mem_singleton.1 h]; exact hXk, fun p hp => by
        rcases List.mem_append.1 hp with h | h
        · exact (unhide hpg).2 p h
        · rw [List.mem_singleton.1 h]; exact unhide hlj⟩
      have hl6 : (ps ++ [((2, A0', c0', b) : Pg)]).length = j + 1 := by rw [List.length_append, unhide hpl]; rfl
      replace hq6 := hide hq6
      replace hp6 := hide hp6
      replace hl6 := hide hl6
      clear hXk hpgn hbl hg6 ho hb hq hpg hpl hl0 hs0 hrow htk hcell' hl0' hs0'
      go_wp2_with (at_builtin; refine wpList_step (fun K hK => step_append_ex (o := ⟨some 21, _, _, _, _, _⟩) (.tmp 14) (.tmp 20) 33 rfl (by rfl) ?_); (with_reducible refine app_ex hrun ?_ (hK _ _ ?_)); rfl)
      go_roundw
      case rel => exact ⟨j + 1, A6, c6, _, by omega, by go_num, rfl, hc6, hq6, hp6, hl6, ho6, hb6⟩
      case measure => simp [intOf]; omega
    · obtain rfl : j = n := by omega
      have hqq : ps.map qOf = setQ (L.map fun b => (2, b)) (lost.take 0) (1, []) := by
        rw [unhide hq, unhide hn, List.take_length]; rfl
      replace hqq := hide hqq
      go_wp2_with fail
      go_loopw [7] (fun s7 wr => ∃ (k : Nat) (ps : List Pg), k ≤ m ∧ s7 = .int .i64 k ∧ Hid (ps.map qOf = setQ (L.map fun b => (2, b)) (lost.take k) (1, [])) ∧ Hid (PgsAt w ps ∧ LowP b0 ps) ∧ Hid (ps.length = j) ∧ Ow wr w.heap.size 35 2 (.slice A5 j c5) (ps.map Pg.arr) ∧ Below w.heap.size w wr) (fun s7 _ => m - (intOf s7).toNat)
      case atStart => exact ⟨0, ps, by omega, rfl, hqq, hpg, hpl, ho, hb⟩
      case round =>
        clear hqq hq hpg hpl ho hb ps
        obtain ⟨k, ps, hk, rfl, hq, hpg, hpl, ho, hb⟩ := hrel
        by_cases hlt2 : k < m
        · have hltI : (k : Int) < m := by omega
          have hkl : k < lost.length := by rw [← unhide hm]; exact hlt2
          obtain ⟨b1, o1, rfl, _, hb1, hr1⟩ := hs.at_ (k := k) (by rw [In.len]; exact hkl)
          have hx := (unhide hin) lost[k] (List.getElem_mem hkl)
          obtain ⟨i, hi⟩ := Int.eq_ofNat_of_zero_le hx.1
          have hij : i < j := by omega
          have hc1 : wr.cell? ⟨b1, o1 + k, none⟩ = some (.int .i64 (i : Int)) := by
            have := rd_cell ((rd_below hb hb1 _ _).trans hr1) 0 (by omega)
            rw [Nat.mul_one, Nat.add_zero] at this
            rw [this, ← hi]
            simp [In]
          obtain ⟨g, rfl, hgb, hgl, hjunk⟩ := ho.some_of (by omega)
          clear hjunk
          obtain ⟨ho6, n1, n2, f1, f2⟩ := ho.setPg (unhide hpl).symm i hij badPg
          obtain ⟨v1, n1⟩ := some_of_ne n1
          obtain ⟨v2, n2⟩ := some_of_ne n2
          have hij2 : (i : Int) < j := by omega
          have hi0 : (0 : Int) ≤ i := by omega
          have hq6 : (ps.set i badPg).map qOf = setQ (L.map fun b => (2, b)) (lost.take (k + 1)) (1, []) := by
            rw [List.take_succ_eq_append_getElem hkl, setQ_snoc, ← unhide hq, hi, Int.toNat_natCast, List.map_set]; rfl
          have hp6 : PgsAt w (ps.set i badPg) ∧ LowP b0 (ps.set i badPg) := ⟨(unhide hpg).1.set i (PgOk.bad w 1), fun p hp => by
            rcases List.mem_or_eq_of_mem_set hp with h | h
            · exact (unhide hpg).2 p h
            · rw [h]; intro a ha; cases ha⟩
          have hl6 : (ps.set i badPg).length = j := by rw [List.length_set]; exact unhide hpl
          have hb6 : Below w.heap.size w ((wr.setCell ⟨g, i * 2, none⟩ (.int .i64 1)).setCell ⟨g, i * 2 + 1, none⟩ (.slice none 0 0)) := (hb.setCell hgb _).setCell hgb _
          have ho6' : Ow ((wr.setCell ⟨g, i * 2, none⟩ (.int .i64 1)).setCell ⟨g, i * 2 + 1, none⟩ (.slice none 0 0)) w.heap.size 35 2 (.slice (some ⟨g, 0, none⟩) j c5) ((ps.set i badPg).map Pg.arr) := ho6
          replace hq6 := hide hq6
          replace hp6 := hide hp6
          replace hl6 := hide hl6
          replace hi := hide hi
          clear hq hpg hpl ho ho6 hb hx hr1
          go_wp2_with fail
          go_roundw
          case rel => exact ⟨k + 1, _, by omega, by go_num, hq6, hp6, hl6, ho6', hb6⟩
          case measure => simp [intOf]; omega
        · obtain rfl : k = m := by omega
          have hqf : ps.map qOf = pagesQ L lost := by
            have := unhide hq
            rw [unhide hm, List.take_length] at this
            exact this
          go_wp2_with fail
          go_ret
          exact ⟨A5, c5, ps, rfl, hc5, hqf, (unhide hpg).1, ho, hb, (unhide hpg).2⟩
theorem pages_any (A A1 : Option Addr) (c c1 n m : Nat) (L : List (List Int)) (lost : List Int) (w : World) (hn : n = L.length) (hm : m = lost.length) (hC : RC w A n L) (hc : n ≤ c) (hne : ∀ r ∈ L, r ≠ [] ∧ OkB r ∧ r.length ≤ 1000000) (hl : n ≤ 1000)
    (hs : Sl w 0 w.heap.size 1 A1 (In lost)) (hlm : m ≤ 1000) (hin : ∀ x ∈ lost, 0 ≤ x ∧ x < n) :
    Calls Try.prog 18 #[.slice A n c, .slice A1 m c1] w fun x w' => ∃ A' c' ps, x = .returned (.slice A' n c') ∧ n ≤ c' ∧ ps.map qOf = pagesQ L lost ∧ PgsAt w ps ∧ Ow w' w.heap.size 35 2 (.slice A' n c') (ps.map Pg.arr) ∧ Below w.heap.size w w' :=
  (pages_low 0 A A1 c c1 n m L lost w hn hm hC hc hne hl hs hlm hin (fun _ _ _ _ _ _ _ _ _ _ => Nat.zero_le _)).mono fun x w' ⟨A', c', ps, h1, h2, h3, h4, h5, h6, _⟩ => ⟨A', c', ps, h1, h2, h3, h4, h5, h6⟩
end Go.Proofs.Ytodbmgafejclmaa.Base
