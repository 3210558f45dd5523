/-
  Parts of a proof, laid together by a program of mine (pack.py): Sl.
-/
import Derived.BigQuiet
import Derived.Test.YtodbmgafejclmaaZB46
namespace Go.Proofs.Ytodbmgafejclmaa.Base
open Go.RowKit Go.Maps Go.Proofs.YtodbmgafejclmaaW.PrintWords Go.Proofs.YtodbmgafejclmaaW.PrintLast
set_option linter.unusedSimpArgs false
set_option linter.unusedVariables false
attribute [local go_sem] Ent.arr0 Ent.arr1 Ent.arr2 Ent.set1 Ent.set2 Ent.arr_size Ent.okW Ent.lit run_ldV_ent run_stV_ent ldR_some stR_true rd_new_whole rd_alloc canW_new canW_alloc wr_new wr_alloc rd_drew rd_drewN canW_drew canW_drewN run_bsS_ent run_bsS_ent0 run_eqI_ent rd_setCell rd_setCell_same canW_setCell' Option.map_some cell_wr_other rd_wr_same rd_wr_other
attribute [local go_sem ↓] ldV_ent stV_ent bsS_ent eqI_ent
attribute [local go_sem] Ent.arr0g Ent.arr1g Ent.arr2g run_ldV_dat rd_dat run_eqI_dat dat_lit
attribute [local go_sem ↓] ldV_dat eqI_dat
attribute [local go_sem] run_bdE4 run_bdE3 run_bdE1 run_bdE0
attribute [local go_sem ↓] build_ent
theorem below_dN {B : Nat} {a w : World} (h : Below B a w) (k : Nat) : Below B a (w.drewN k) := ⟨h.os, h.tape, h.output, h.size, h.block⟩
/-- two rows, and a blank one behind -/
theorem look_two {s1 s2 : Int} {es1 : List Ent} {p1 p2 p3 : List Pg} {B1 B2 B3 : Option Addr} {d1 d2 d3 : Nat} (hs1 : 1 ≤ s1 ∧ s1 ≤ 1000) (hs2 : 1 ≤ s2 ∧ s2 ≤ 1000) (hwf : ∀ e ∈ es1, e.Wf) (hok : ∀ e ∈ es1, OkE e) (h1 : p1.map qOf = pagesQ (fullE s1 9 0 es1 4) []) (h2 : p2.map qOf = pagesQ (fullE s2 9 1 [] 4) [])
    (h3 : p3.map qOf = List.replicate 6 (0, [])) : lookP 9 [((B1, d1, p1) : PR), (B2, d2, p2), (B3, d3, p3)] = (1, [(s1, 0, padE es1 4)]) := by
  have a0 : pgsOf [((B1, d1, p1) : PR), (B2, d2, p2), (B3, d3, p3)] 0 = p1 := rfl
  have a1 : pgsOf [((B1, d1, p1) : PR), (B2, d2, p2), (B3, d3, p3)] 1 = p2 := rfl
  have a2 : pgsOf [((B1, d1, p1) : PR), (B2, d2, p2), (B3, d3, p3)] 2 = p3 := rfl
  have hst : stB p2 = true := stB_row h2 (fun x hx => (List.not_mem_nil hx).elim) (by rw [full_pos _ _ _ _ _ (by simp)]; omega)
  have hl : lastS [((B1, d1, p1) : PR), (B2, d2, p2), (B3, d3, p3)] = ((1 : Nat) : Int) := by
    have h0 : lastN (fun i => stB (pgsOf [((B1, d1, p1) : PR), (B2, d2, p2), (B3, d3, p3)] i)) 3 = ((1 : Nat) : Int) := lastN_at (by omega) (by rw [a1]; exact hst) (fun j k1 k2 => by
      obtain rfl : j = 2 := by omega
      show stB (pgsOf _ 2) = false
      rw [a2]
      exact stB_blank h3)
    exact h0
  rw [lookP_st (by rw [hl]; omega), hl]
  have hd := (decP_back (most := 1) (m := 4) (by omega) ⟨by omega, by omega⟩ (by omega) (by omega) hwf hok (ok_nil _) (by omega) (by omega) h1).2
  have e1 : soundR 9 [((B1, d1, p1) : PR), (B2, d2, p2), (B3, d3, p3)] (((1 : Nat) : Int)).toNat = [(s1, 0, padE es1 4)] := by
    show ([] : List RowP) ++ (match (decP 9 ((0 : Nat) : Int) (pgsOf _ 0) 1).2 with | some r => [(r.1, ((0 : Nat) : Int), r.2)] | none => []) = _
    rw [a0]
    have hd' : decP 9 ((0 : Nat) : Int) p1 1 = _ := hd
    rw [hd', if_neg (by simp)]
    rfl
  have e2 : (decP 9 ((([((B1, d1, p1) : PR), (B2, d2, p2), (B3, d3, p3)].length : Nat) : Int) - 1) (pgsOf [((B1, d1, p1) : PR), (B2, d2, p2), (B3, d3, p3)] ([((B1, d1, p1) : PR), (B2, d2, p2), (B3, d3, p3)].length - 1)) 1).1 ≠ 0 := decP_none (decP_zero (by
    show 0 < zs (pgsOf [((B1, d1, p1) : PR), (B2, d2, p2), (B3, d3, p3)] 2)
    rw [a2]
    exact zs_blank h3 (by omega)))
  rw [e1, if_neg e2]
set_option maxRecDepth 100000 in
theorem run_mk6' (w : World) : (Instr.makeSlice 33 (.int .i64 6) (.int .i64 6)).run Try.prog w = .ok (.slice (some ⟨w.heap.size, 0, none⟩) 6 6) (w.alloc (.cells (blankA 6) 35)) := by kernel_rfl
attribute [local go_sem] run_mk6'
theorem Rn.of_same {w0 w : World} {L1 : Nat} {v : Value} {T : List RowD} (h : Rn w0 L1 v T) (hz : w0.heap.size ≤ w.heap.size) (hk : ∀ k, L1 ≤ k → k < w0.heap.size → w.heap[k]? = w0.heap[k]?) : Rn w L1 v T :=
  ⟨h.1.mv (fun k e => hk k (h.1.lt k e).1 (h.1.lt k e).2), fun t ht => ⟨(h.2 t ht).1.keep hz (fun a ha => by
    obtain ⟨b, o, e, h1, h2⟩ := (h.2 t ht).1.lt
    rw [ha] at e; injection e with e; subst e
    exact hk b h1 h2), (h.2 t ht).2⟩⟩
/-- rows that lie between two bounds -/
def LkM (w : World) (L1 L2 : Nat) (v : Value) (T : List RowD) : Prop := ∃ w0 : World, w0.heap.size = L2 ∧ Rn w0 L1 v T ∧ ∀ k, L1 ≤ k → k < L2 → w.heap[k]? = w0.heap[k]?
theorem LkM.keep {w w' : World} {L1 L2 : Nat} {v : Value} {T : List RowD} (h : LkM w L1 L2 v T) (hk : ∀ k, L1 ≤ k → k < L2 → w'.heap[k]? = w.heap[k]?) : LkM w' L1 L2 v T := by
  obtain ⟨w0, h1, h2, h3⟩ := h
  exact ⟨w0, h1, h2, fun k a b => (hk k a b).trans (h3 k a b)⟩
def SlRA (u0 u1 u2 u3 u4 u5 u6 u7 u8 u9 u11 u12 u13 u14 u15 u16 u17 u18 u19 u20 u21 u22 u23 u24 u25 u26 u27 u28 u29 u30 u31 u32 u33 u34 u42 u43 u44 u45 u46 u47 u48 u49 u50 u51 u52 u53 u54 u55 u56 u57 u58 u59 u60 u61 u62 u63 u64 u65 u66 u67 u68 u69 u70 u71 u72 u73 u74 u75 u76 u77 u78 u79 u80 u81 u82 u83 u84 u85 u86 u87 u88 u89 u90 u91 u92 u93 u94 u95 u96 u97 u98 u99 u100 x10 x35 x36 x37 x38 x39 x40 x41 : Value) (df : List Deferred) : Act := { tmps := #[u0, u1, u2, u3, u4, u5, u6, u7, u8, u9, x10, u11, u12, u13, u14, u15, u16, u17, u18, u19, u20, u21, u22, u23, u24, u25, u26, u27, u28, u29, u30, u31, u32, u33, u34, x35, x36, x37, x38, x39, x40, x41, u42, u43, u44, u45, u46, u47, u48, u49, u50, u51, u52, u53, u54, u55, u56, u57, u58, u59, u60, u61, u62, u63, u64, u65, u66, u67, u68, u69, u70, u71, u72, u73, u74, u75, u76, u77, u78, u79, u80, u81, u82, u83, u84, u85, u86, u87, u88, u89, u90, u91, u92, u93, u94, u95, u96, u97, u98, u99, u100], defers := df }
structure SlRI (wr : World) (ser : Int) (A3 A4 : Option Addr) (c3 c4 : Nat) (Q1 Q2 : List Qg) (S : List Ent) (l : Array Bool) (x10 x35 x36 x37 x38 x39 x40 x41 : Value) (B1 : Option Addr) (d1 : Nat) (p1 : List Pg) (B2 : Option Addr) (d2 : Nat) (p2 : List Pg) (p4 : Nat) (p5 : Nat) (C1 : Option Addr) (e1 : Nat) (L1 : Nat) (L2 : Nat) (R1 : Option Addr) (r1 : Nat) (z : Bool) (p7 : Nat) (w : World) : Prop where
  b : Below wr.heap.size wr w
  l0 : l.getD 0 false = true → x35 = .slice A3 6 c3
  l1 : l.getD 1 false = true → x36 = .slice B1 6 d1 ∧ (z = false → PrOk w (B1, d1, p1) ∧ p1.map qOf = Q1)
  l2 : l.getD 2 false = true → x37 = .slice A4 6 c4
  l3 : l.getD 3 false = true → x38 = .slice B2 6 d2 ∧ (z = false → PrOk w (B2, d2, p2) ∧ p2.map qOf = Q2)
  l4 : l.getD 4 false = true → x39 = .slice (some ⟨p4, 0, none⟩) 6 6 ∧ (z = false → PrOk w (some ⟨p4, 0, none⟩, 6, blankR 6) ∧ True)
  l5 : l.getD 5 false = true → x40 = .slice (some ⟨p5, 0, none⟩) 3 3 ∧ (z = false → w.heap[p5]? = some (.cells #[.slice B1 6 d1, .slice B2 6 d2, .slice (some ⟨p4, 0, none⟩) 6 6] 33 (0, 0)))
  l6 : l.getD 6 false = true → x41 = .agg #[.int .i64 1, .slice C1 1 e1] ∧ z = true ∧ wr.heap.size ≤ L1 ∧ L1 ≤ L2 ∧ L2 ≤ w.heap.size ∧ LkM w L1 L2 (.slice C1 1 e1) [⟨ser, 0, R1, r1, S⟩]
  l7 : l.getD 7 false = true → x10 = .pointer (some ⟨p7, 0, none⟩) ∧ wr.heap.size ≤ p7 ∧ ∃ v0 v1 : Value, w.heap[p7]? = some (.cells #[v0, v1] 31 (0, 0))
  l8 : l.getD 8 false = true → w.heap[p7]? = some (.cells #[.int .i64 1, .slice C1 1 e1] 31 (0, 0))
  cz : z = true → l.getD 6 false = true
  sep : l.getD 6 false = true → l.getD 7 false = true → p7 < L1 ∨ L2 ≤ p7
  c5_1 : l.getD 5 false = true → l.getD 1 false = true
  c5_3 : l.getD 5 false = true → l.getD 3 false = true
  c5_4 : l.getD 5 false = true → l.getD 4 false = true
  c8_6 : l.getD 8 false = true → l.getD 6 false = true
  c8_7 : l.getD 8 false = true → l.getD 7 false = true
theorem SlRI.below {wr : World} {ser : Int} {A3 A4 : Option Addr} {c3 c4 : Nat} {Q1 Q2 : List Qg} {S : List Ent} {l : Array Bool} {x10 x35 x36 x37 x38 x39 x40 x41 : Value} {B1 : Option Addr} {d1 : Nat} {p1 : List Pg} {B2 : Option Addr} {d2 : Nat} {p2 : List Pg} {p4 : Nat} {p5 : Nat} {C1 : Option Addr} {e1 : Nat} {L1 : Nat} {L2 : Nat} {R1 : Option Addr} {r1 : Nat} {z : Bool} {p7 : Nat} {w w' : World} (h : SlRI wr ser A3 A4 c3 c4 Q1 Q2 S l x10 x35 x36 x37 x38 x39 x40 x41 B1 d1 p1 B2 d2 p2 p4 p5 C1 e1 L1 L2 R1 r1 z p7 w) (hb : Below w.heap.size w w') : SlRI wr ser A3 A4 c3 c4 Q1 Q2 S l x10 x35 x36 x37 x38 x39 x40 x41 B1 d1 p1 B2 d2 p2 p4 p5 C1 e1 L1 L2 R1 r1 z p7 w' :=
  { h with
    b := h.b.trans (hb.mono h.b.size)
    l7 := fun hl => by obtain ⟨h1, h2, v0, v1, h3⟩ := h.l7 hl; exact ⟨h1, h2, v0, v1, (hb.block _ (Array.getElem?_eq_some_iff.1 h3).1).trans h3⟩
    l8 := fun hl => (hb.block _ (Array.getElem?_eq_some_iff.1 (h.l8 hl)).1).trans (h.l8 hl)
    l1 := fun hl => ⟨(h.l1 hl).1, fun hz => by obtain ⟨k1, k2⟩ := (h.l1 hl).2 hz; exact ⟨k1.below hb, k2⟩⟩
    l3 := fun hl => ⟨(h.l3 hl).1, fun hz => by obtain ⟨k1, k2⟩ := (h.l3 hl).2 hz; exact ⟨k1.below hb, k2⟩⟩
    l4 := fun hl => ⟨(h.l4 hl).1, fun hz => by obtain ⟨k1, k2⟩ := (h.l4 hl).2 hz; exact ⟨k1.below hb, k2⟩⟩
    l5 := fun hl => ⟨(h.l5 hl).1, fun hz => (hb.block _ (Array.getElem?_eq_some_iff.1 ((h.l5 hl).2 hz)).1).trans ((h.l5 hl).2 hz)⟩
    l6 := fun hl => by obtain ⟨h0, h1, h2, h3, h4, h5⟩ := h.l6 hl; exact ⟨h0, h1, h2, h3, Nat.le_trans h4 hb.size, h5.keep (fun k _ hk => hb.block k (by omega))⟩ }
set_option maxRecDepth 100000 in
set_option maxHeartbeats 1000000 in
theorem slots13_walk (a1 : Int) (A : Option Addr) (c n : Nat) (es : List Ent) (w : World) (h1 : I64 a1) (hn : n = es.length) (hc : n ≤ c) (hm : c ≤ maxLen) (hs : Sl w 0 w.heap.size 19 A (es.map Ent.arr)) (hwf : ∀ e ∈ es, e.Wf) :
    Calls Try.prog 8 #[.slice A n c, .int .i64 a1] w fun e w' => e = .returned (.bool true) ∧ Below w.heap.size w w' := by
  obtain ⟨s, hs99, hw1⟩ := w13_lt a1 99 h1 (by omega) (by omega)
  obtain ⟨es1, hes1⟩ : ∃ es1, es1 = (es.take 4).map goodE := ⟨_, rfl⟩
  obtain ⟨hwf1, hok1⟩ := okw_good hes1 hwf
  have hl1 : es1.length ≤ 4 := by rw [hes1, List.length_map, List.length_take]; omega
  have hsl := fun (W : World) hsW => slots_own A c 4 n 4 es es1 W (by omega) hes1 (by omega) hn hc hm hwf hsW
  clear hes1 hwf
  generalize hn1 : es1.length = n1 at hl1 hsl
  have hn1' := hide hn1
  clear hn1
  replace hwf1 := hide hwf1
  replace hok1 := hide hok1
  have hn' := hide hn
  clear hn
  go_enter Try.func8, Try.ntmps8
  go_wp2_with fail
  refine (known13 _).mono ?_
  rintro e w1 ⟨rfl, hb1⟩
  by_cases hl : n ≤ 30
  · have hlI : (n : Int) ≤ 30 := by omega
    go_wp2_with fail
    refine (hw1 _).mono ?_
    rintro e wq ⟨rfl, rfl⟩
    have hslw := hsl _ ((hs.below hb1).more hb1.size)
    go_wp2_with fail
    (with_reducible refine hslw.mono ?_)
    rintro x w2 ⟨A2, c2, rfl, hc2, ho2, hb2'⟩
    have hb2 := hb1.trans (hb2'.mono hb1.size)
    have hs2 : Sl w2 0 w2.heap.size 19 A2 (es1.map Ent.arr) := (ho2.sl (Ent.sized _) (by omega)).less (Nat.zero_le _)
    have hen := rencode_row 6 4 (1 + (s : Int)) 9 0 A2 c2 n1 es1 w2 (by omega) (by omega) (by omega) (by omega) (by omega) (unhide hn1').symm hl1 (unhide hwf1) (unhide hok1) hc2 hs2
    clear hslw hsl ho2 hb2'
    go_wp2_with fail
    (with_reducible refine hen.mono ?_)
    rintro x w3 ⟨A3, c3, rfl, hc3, hC3, hb3'⟩
    have hb3 := hb2.trans (hb3'.mono hb2.size)
    have hs3 := (hs2.below hb3').more hb3'.size
    have hen2 := rencode_row 6 4 (1 + (s : Int) + 1) 9 1 none 0 0 [] w3 (by omega) (by omega) (by omega) (by omega) (by omega) rfl (by omega) (by simp) (by simp) (by omega) Sl.nil
    clear hen hs2 hb3'
    go_wp2_with fail
    (with_reducible refine hen2.mono ?_)
    rintro x w4 ⟨A4, c4, rfl, hc4, hC4, hb4'⟩
    have hb4 := hb3.trans (hb4'.mono hb3.size)
    have hs4 := (hs3.below hb4').more hb4'.size
    have hC34 : RC w4 A3 (4 + 2) (fullE (1 + (s : Int)) 9 0 es1 4) := Kd.C_below hC3 hb4'
    clear hen2 hs3 hb4' hC3
    obtain ⟨Q1, hQ1⟩ : ∃ Q1, Q1 = pagesQ (fullE (1 + (s : Int)) 9 0 es1 4) [] := ⟨_, rfl⟩
    obtain ⟨Q2, hQ2⟩ : ∃ Q2, Q2 = pagesQ (fullE (1 + (s : Int) + 1) 9 1 [] 4) [] := ⟨_, rfl⟩
    obtain ⟨S, hS⟩ : ∃ S, S = padE es1 4 := ⟨_, rfl⟩
    have hpgs : ∀ (A0 : Option Addr) (c0 : Nat) (L : List (List Int)) (hL : L.length = 6) (hC : RC w4 A0 6 L) (hc0 : 6 ≤ c0) (hne : ∀ r ∈ L, r ≠ [] ∧ OkB r ∧ r.length ≤ 1000000) (w' : World), Below w4.heap.size w4 w' →
        Calls Try.prog 18 #[.slice A0 6 c0, .slice none 0 0] w' fun x w'' => (∃ b e p, x = .returned (.slice b 6 e) ∧ PrOk w'' (b, e, p) ∧ p.map qOf = pagesQ L []) ∧ Below w'.heap.size w' w'' := by
      intro A0 c0 L hL hC hc0 hne w' hb'
      refine (pages_any A0 none c0 0 6 0 L [] w' hL.symm rfl (Kd.C_below hC hb') hc0 hne (by omega) Sl.nil (by omega) (fun x hx => by simp at hx)).mono ?_
      rintro x w'' ⟨A', c', ps, rfl, hc', hq, hp, ho, hb''⟩
      have hpl : ps.length = 6 := by
        have := congrArg List.length hq
        rw [List.length_map, pagesQ_len, hL] at this
        exact this
      exact ⟨⟨A', c', ps, rfl, ⟨by show ps.length ≤ c'; omega, by show ps.length ≤ 1000; omega, pages_i64 hq (fun x hx => by simp at hx), (ho.sl (Pg.sized _) (by omega)).less (Nat.zero_le _), hp.below hb''⟩, hq⟩, hb''⟩
    have hpg1 := hpgs A3 c3 _ (full_fit (1 + (s : Int)) 9 0 es1 4 (unhide hwf1)).1 hC34 hc3 (full_fit (1 + (s : Int)) 9 0 es1 4 (unhide hwf1)).2
    have hpg2 := hpgs A4 c4 _ (full_fit (1 + (s : Int) + 1) 9 1 ([] : List Ent) 4 (by simp)).1 hC4 hc4 (full_fit (1 + (s : Int) + 1) 9 1 ([] : List Ent) 4 (by simp)).2
    rw [← hQ1] at hpg1
    rw [← hQ2] at hpg2
    have hlk9 : ∀ (w' : World) (B1 B2 : Option Addr) (p4 p5 d1 d2 : Nat) (p1 p2 : List Pg), w'.heap[p5]? = some (.cells #[.slice B1 6 d1, .slice B2 6 d2, .slice (some ⟨p4, 0, none⟩) 6 6] 33 (0, 0)) → (PrOk w' (B1, d1, p1) ∧ p1.map qOf = Q1) → (PrOk w' (B2, d2, p2) ∧ p2.map qOf = Q2) → PrOk w' (some ⟨p4, 0, none⟩, 6, blankR 6) →
        Calls Try.prog 12 #[.int .i64 9, .slice (some ⟨p5, 0, none⟩) 3 3] w' fun x w'' => (∃ C1 e1 R1 r1, x = .returned (.agg #[.int .i64 1, .slice C1 1 e1]) ∧ Rn w'' w'.heap.size (.slice C1 1 e1) [⟨1 + (s : Int), 0, R1, r1, S⟩]) ∧ Below w'.heap.size w' w'' := by
      rintro w' B1 B2 p4 p5 d1 d2 p1 p2 hc ⟨hp1, hq1⟩ ⟨hp2, hq2⟩ hp4
      have l1 : p1.length = 6 := by
        have := congrArg List.length hq1
        rw [List.length_map, hQ1, pagesQ_len, full_pos _ _ _ _ _ (unhide hwf1)] at this
        exact this
      have l2 : p2.length = 6 := by
        have := congrArg List.length hq2
        rw [List.length_map, hQ2, pagesQ_len, full_pos _ _ _ _ _ (by simp)] at this
        exact this
      have hma : [((B1, d1, p1) : PR), (B2, d2, p2), (some ⟨p4, 0, none⟩, 6, blankR 6)].map PR.arr = [#[.slice B1 6 d1], #[.slice B2 6 d2], #[.slice (some ⟨p4, 0, none⟩) 6 6]] := by
        simp [PR.arr, PR.cell, l1, l2, blankR]
      have hsl : Sl w' 0 w'.heap.size 1 (some ⟨p5, 0, none⟩) ([((B1, d1, p1) : PR), (B2, d2, p2), (some ⟨p4, 0, none⟩, 6, blankR 6)].map PR.arr) :=
        Sl.of_block hc (Nat.zero_le _) (Array.getElem?_eq_some_iff.1 hc).1 (PR.sized _) (fun j v h => by rw [hma] at h; rw [Nat.zero_add]; simpa [flat] using h) (by omega)
      refine (look_any 9 (some ⟨p5, 0, none⟩) 3 3 _ w' rfl (by omega) (by omega) hsl (fun r hr => by
        rcases List.mem_cons.1 hr with h | hr
        · rw [h]; exact hp1
        · rcases List.mem_cons.1 hr with h | hr
          · rw [h]; exact hp2
          · rw [List.mem_singleton.1 hr]; exact hp4)).mono ?_
      rintro x w'' ⟨⟨C1, e1, T', hx, hc1, hT', hR⟩, hb⟩
      rw [look_two (s1 := 1 + (s : Int)) (s2 := 1 + (s : Int) + 1) (by omega) (by omega) (unhide hwf1) (unhide hok1) (hq1.trans hQ1) (hq2.trans hQ2) (by simp [blankR, qOf, blankPg])] at hx hT'
      simp only at hx hT'
      match T', hT' with
      | [⟨ser, at_, R1, r1, S'⟩], hT' =>
        simp only [List.map_cons, List.map_nil, RowD.pl, List.cons.injEq, Prod.mk.injEq, and_true] at hT'
        obtain ⟨rfl, rfl, rfl⟩ := hT'
        subst hS
        exact ⟨⟨C1, e1, R1, r1, hx, hR⟩, hb⟩
    replace hQ1 := hide hQ1
    replace hQ2 := hide hQ2
    replace hS := hide hS
    clear hpgs
    go_wp2_with fail
    -- REGION{
    refine region_inv 9 (fun l' a w => ∃ x10 x35 x36 x37 x38 x39 x40 x41 B1 d1 p1 B2 d2 p2 p4 p5 C1 e1 L1 L2 R1 r1 z p7, a = SlRA (.slice A n c) (.int .i64 (1 + (s : Int))) (undef) (undef) (.bool false) (.slice A2 n1 c2) (.slice A3 6 c3) (.int .i64 0) (.slice A4 6 c4) (.int .i64 0) (undef) (undef) (.bool true) (.bool false) (.slice A n c) (.int .i64 n) (.bool (decide (30 < (n : Int)))) (.int .i64 a1) (.int .i64 s) (.int .i64 (1 + (s : Int))) (.slice A n c) (.slice A2 n1 c2) (.tuple #[.slice A3 6 c3, .int .i64 0]) (.int .i64 (1 + (s : Int))) (.slice A2 n1 c2) (.tuple #[.slice A3 6 c3, .int .i64 0]) (.slice A3 6 c3) (.int .i64 0) (.tuple #[.slice A4 6 c4, .int .i64 0]) (.int .i64 (1 + (s : Int))) (.int .i64 (1 + (s : Int) + 1)) (.tuple #[.slice A4 6 c4, .int .i64 0]) (.slice A4 6 c4) (.int .i64 0) (undef) (undef) (undef) (undef) (undef) (undef) (undef) (undef) (undef) (undef) (undef) (undef) (undef) (undef) (undef) (undef) (undef) (undef) (undef) (undef) (undef) (undef) (undef) (undef) (undef) (undef) (undef) (undef) (undef) (undef) (undef) (undef) (undef) (undef) (undef) (undef) (undef) (undef) (undef) (undef) (undef) (undef) (undef) (undef) (undef) (undef) (undef) (undef) (undef) (undef) (undef) (undef) (undef) (undef) (undef) (undef) (undef) (undef) (undef) x10 x35 x36 x37 x38 x39 x40 x41 [] ∧ SlRI w4 (1 + (s : Int)) A3 A4 c3 c4 Q1 Q2 S l' x10 x35 x36 x37 x38 x39 x40 x41 B1 d1 p1 B2 d2 p2 p4 p5 C1 e1 L1 L2 R1 r1 z p7 w) (by kernel_rfl) (by kernel_rfl) rfl ?_ ?_ ?_
    · refine ⟨_, _, _, _, _, _, _, _, none, 0, [], none, 0, [], 0, 0, none, 0, 0, 0, none, 0, false, 0, rfl, { b := (Below.refl _ _).drew, l0 := (fun hl => by cases hl), l1 := (fun hl => by cases hl), l2 := (fun hl => by cases hl), l3 := (fun hl => by cases hl), l4 := (fun hl => by cases hl), l5 := (fun hl => by cases hl), l6 := (fun hl => by cases hl), l7 := (fun hl => by cases hl), l8 := (fun hl => by cases hl), cz := (fun hz => by cases hz), sep := (fun hl => by cases hl), c5_1 := (fun hl => by cases hl), c5_3 := (fun hl => by cases hl), c5_4 := (fun hl => by cases hl), c8_6 := (fun hl => by cases hl), c8_7 := (fun hl => by cases hl) }⟩
    · rintro l' a w' i oo ho hun hall hsz ⟨x10, x35, x36, x37, x38, x39, x40, x41, B1, d1, p1, B2, d2, p2, p4, p5, C1, e1, L1, L2, R1, r1, z, p7, rfl, I⟩ K hK
      have hl' : ∀ q, i ≠ q → (l'.setIfInBounds i true).getD q false = l'.getD q false := fun q hq => getD_set_ne false hq
      match i, ho with
      | 0, ho =>
        obtain rfl := Option.some.inj ho
        refine value_ (v := .slice A3 6 c3) (w1 := w') (by rfl) rfl (by unfold SlRA; clear hl' hall hK I; go_simp) ?_
        exact hK.out _ _ ⟨x10, .slice A3 6 c3, x36, x37, x38, x39, x40, x41, B1, d1, p1, B2, d2, p2, p4, p5, C1, e1, L1, L2, R1, r1, z, p7, rfl, { b := I.b, l0 := (fun _ => rfl), l1 := (fun hl0 => I.l1 (by rw [← hl' 1 (by decide)]; exact hl0)), l2 := (fun hl0 => I.l2 (by rw [← hl' 2 (by decide)]; exact hl0)), l3 := (fun hl0 => I.l3 (by rw [← hl' 3 (by decide)]; exact hl0)), l4 := (fun hl0 => I.l4 (by rw [← hl' 4 (by decide)]; exact hl0)), l5 := (fun hl0 => I.l5 (by rw [← hl' 5 (by decide)]; exact hl0)), l6 := (fun hl0 => I.l6 (by rw [← hl' 6 (by decide)]; exact hl0)), l7 := (fun hl0 => I.l7 (by rw [← hl' 7 (by decide)]; exact hl0)), l8 := (fun hl0 => I.l8 (by rw [← hl' 8 (by decide)]; exact hl0)), cz := (fun hz => by rw [hl' 6 (by decide)]; exact I.cz hz), sep := (fun hl0 hl1 => I.sep (by rw [← hl' 6 (by decide)]; exact hl0) (by rw [← hl' 7 (by decide)]; exact hl1)), c5_1 := (fun hl => by rw [hl' 1 (by decide)]; exact I.c5_1 (by rw [← hl' 5 (by decide)]; exact hl)), c5_3 := (fun hl => by rw [hl' 3 (by decide)]; exact I.c5_3 (by rw [← hl' 5 (by decide)]; exact hl)), c5_4 := (fun hl => by rw [hl' 4 (by decide)]; exact I.c5_4 (by rw [← hl' 5 (by decide)]; exact hl)), c8_6 := (fun hl => by rw [hl' 6 (by decide)]; exact I.c8_6 (by rw [← hl' 8 (by decide)]; exact hl)), c8_7 := (fun hl => by rw [hl' 7 (by decide)]; exact I.c8_7 (by rw [← hl' 8 (by decide)]; exact hl)) }⟩
      | 1, ho =>
        obtain rfl := Option.some.inj ho
        have hg0 := I.l0 (hall ⟨0, .data⟩ (by simp) (by rfl))
        subst hg0
        refine goes_ Try.func18 (by kernel_rfl) rfl #[.slice A3 6 c3, .slice none 0 0] (by rfl) rfl rfl (by (try simp only [List.map_toArray, List.map_cons, List.map_nil]); first | done | rfl) ?_
        with_reducible refine (hpg1 w' I.b).mono ?_
        rintro y w6 ⟨⟨b9, e9, p9, rfl, hF⟩, hb6⟩
        have I2 := I.below hb6
        refine ⟨_, rfl, ?_⟩
        exact hK.out _ _ ⟨x10, .slice A3 6 c3, .slice b9 6 e9, x37, x38, x39, x40, x41, b9, e9, p9, B2, d2, p2, p4, p5, C1, e1, L1, L2, R1, r1, z, p7, rfl, { b := I2.b, l0 := (fun _ => rfl), l1 := (fun _ => ⟨rfl, fun _ => hF⟩), l2 := (fun hl0 => I2.l2 (by rw [← hl' 2 (by decide)]; exact hl0)), l3 := (fun hl0 => I2.l3 (by rw [← hl' 3 (by decide)]; exact hl0)), l4 := (fun hl0 => I2.l4 (by rw [← hl' 4 (by decide)]; exact hl0)), l5 := (fun hl => (getD_no hun (I.c5_1 (by rw [← hl' 5 (by decide)]; exact hl))).elim), l6 := (fun hl0 => I2.l6 (by rw [← hl' 6 (by decide)]; exact hl0)), l7 := (fun hl0 => I2.l7 (by rw [← hl' 7 (by decide)]; exact hl0)), l8 := (fun hl0 => I2.l8 (by rw [← hl' 8 (by decide)]; exact hl0)), cz := (fun hz => by rw [hl' 6 (by decide)]; exact I2.cz hz), sep := (fun hl0 hl1 => I2.sep (by rw [← hl' 6 (by decide)]; exact hl0) (by rw [← hl' 7 (by decide)]; exact hl1)), c5_1 := (fun _ => by simp [hsz]), c5_3 := (fun hl => by rw [hl' 3 (by decide)]; exact I.c5_3 (by rw [← hl' 5 (by decide)]; exact hl)), c5_4 := (fun hl => by rw [hl' 4 (by decide)]; exact I.c5_4 (by rw [← hl' 5 (by decide)]; exact hl)), c8_6 := (fun hl => by rw [hl' 6 (by decide)]; exact I.c8_6 (by rw [← hl' 8 (by decide)]; exact hl)), c8_7 := (fun hl => by rw [hl' 7 (by decide)]; exact I.c8_7 (by rw [← hl' 8 (by decide)]; exact hl)) }⟩
      | 2, ho =>
        obtain rfl := Option.some.inj ho
        refine value_ (v := .slice A4 6 c4) (w1 := w') (by rfl) rfl (by unfold SlRA; clear hl' hall hK I; go_simp) ?_
        exact hK.out _ _ ⟨x10, x35, x36, .slice A4 6 c4, x38, x39, x40, x41, B1, d1, p1, B2, d2, p2, p4, p5, C1, e1, L1, L2, R1, r1, z, p7, rfl, { b := I.b, l0 := (fun hl0 => I.l0 (by rw [← hl' 0 (by decide)]; exact hl0)), l1 := (fun hl0 => I.l1 (by rw [← hl' 1 (by decide)]; exact hl0)), l2 := (fun _ => rfl), l3 := (fun hl0 => I.l3 (by rw [← hl' 3 (by decide)]; exact hl0)), l4 := (fun hl0 => I.l4 (by rw [← hl' 4 (by decide)]; exact hl0)), l5 := (fun hl0 => I.l5 (by rw [← hl' 5 (by decide)]; exact hl0)), l6 := (fun hl0 => I.l6 (by rw [← hl' 6 (by decide)]; exact hl0)), l7 := (fun hl0 => I.l7 (by rw [← hl' 7 (by decide)]; exact hl0)), l8 := (fun hl0 => I.l8 (by rw [← hl' 8 (by decide)]; exact hl0)), cz := (fun hz => by rw [hl' 6 (by decide)]; exact I.cz hz), sep := (fun hl0 hl1 => I.sep (by rw [← hl' 6 (by decide)]; exact hl0) (by rw [← hl' 7 (by decide)]; exact hl1)), c5_1 := (fun hl => by rw [hl' 1 (by decide)]; exact I.c5_1 (by rw [← hl' 5 (by decide)]; exact hl)), c5_3 := (fun hl => by rw [hl' 3 (by decide)]; exact I.c5_3 (by rw [← hl' 5 (by decide)]; exact hl)), c5_4 := (fun hl => by rw [hl' 4 (by decide)]; exact I.c5_4 (by rw [← hl' 5 (by decide)]; exact hl)), c8_6 := (fun hl => by rw [hl' 6 (by decide)]; exact I.c8_6 (by rw [← hl' 8 (by decide)]; exact hl)), c8_7 := (fun hl => by rw [hl' 7 (by decide)]; exact I.c8_7 (by rw [← hl' 8 (by decide)]; exact hl)) }⟩
      | 3, ho =>
        obtain rfl := Option.some.inj ho
        have hg2 := I.l2 (hall ⟨2, .data⟩ (by simp) (by rfl))
        subst hg2
        refine goes_ Try.func18 (by kernel_rfl) rfl #[.slice A4 6 c4, .slice none 0 0] (by rfl) rfl rfl (by (try simp only [List.map_toArray, List.map_cons, List.map_nil]); first | done | rfl) ?_
        with_reducible refine (hpg2 w' I.b).mono ?_
        rintro y w6 ⟨⟨b9, e9, p9, rfl, hF⟩, hb6⟩
        have I2 := I.below hb6
        refine ⟨_, rfl, ?_⟩
        exact hK.out _ _ ⟨x10, x35, x36, .slice A4 6 c4, .slice b9 6 e9, x39, x40, x41, B1, d1, p1, b9, e9, p9, p4, p5, C1, e1, L1, L2, R1, r1, z, p7, rfl, { b := I2.b, l0 := (fun hl0 => I2.l0 (by rw [← hl' 0 (by decide)]; exact hl0)), l1 := (fun hl0 => I2.l1 (by rw [← hl' 1 (by decide)]; exact hl0)), l2 := (fun _ => rfl), l3 := (fun _ => ⟨rfl, fun _ => hF⟩), l4 := (fun hl0 => I2.l4 (by rw [← hl' 4 (by decide)]; exact hl0)), l5 := (fun hl => (getD_no hun (I.c5_3 (by rw [← hl' 5 (by decide)]; exact hl))).elim), l6 := (fun hl0 => I2.l6 (by rw [← hl' 6 (by decide)]; exact hl0)), l7 := (fun hl0 => I2.l7 (by rw [← hl' 7 (by decide)]; exact hl0)), l8 := (fun hl0 => I2.l8 (by rw [← hl' 8 (by decide)]; exact hl0)), cz := (fun hz => by rw [hl' 6 (by decide)]; exact I2.cz hz), sep := (fun hl0 hl1 => I2.sep (by rw [← hl' 6 (by decide)]; exact hl0) (by rw [← hl' 7 (by decide)]; exact hl1)), c5_1 := (fun hl => by rw [hl' 1 (by decide)]; exact I.c5_1 (by rw [← hl' 5 (by decide)]; exact hl)), c5_3 := (fun _ => by simp [hsz]), c5_4 := (fun hl => by rw [hl' 4 (by decide)]; exact I.c5_4 (by rw [← hl' 5 (by decide)]; exact hl)), c8_6 := (fun hl => by rw [hl' 6 (by decide)]; exact I.c8_6 (by rw [← hl' 8 (by decide)]; exact hl)), c8_7 := (fun hl => by rw [hl' 7 (by decide)]; exact I.c8_7 (by rw [← hl' 8 (by decide)]; exact hl)) }⟩
      | 4, ho =>
        obtain rfl := Option.some.inj ho
        have I2 := I.below ((Below.refl _ _).alloc (Nat.le_refl _) (.cells (blankA 6) 35))
        refine value_ (v := .slice (some ⟨w'.heap.size, 0, none⟩) 6 6) (w1 := w'.alloc (.cells (blankA 6) 35)) (by rfl) rfl (by unfold SlRA; clear hl' hall hK I; go_simp) ?_
        exact hK.out _ _ ⟨x10, x35, x36, x37, x38, .slice (some ⟨w'.heap.size, 0, none⟩) 6 6, x40, x41, B1, d1, p1, B2, d2, p2, w'.heap.size, p5, C1, e1, L1, L2, R1, r1, z, p7, rfl, { b := I2.b, l0 := (fun hl0 => I2.l0 (by rw [← hl' 0 (by decide)]; exact hl0)), l1 := (fun hl0 => I2.l1 (by rw [← hl' 1 (by decide)]; exact hl0)), l2 := (fun hl0 => I2.l2 (by rw [← hl' 2 (by decide)]; exact hl0)), l3 := (fun hl0 => I2.l3 (by rw [← hl' 3 (by decide)]; exact hl0)), l4 := (fun _ => ⟨rfl, fun _ => ⟨blankR_ok w' 6 (by omega) (by omega), trivial⟩⟩), l5 := (fun hl => (getD_no hun (I.c5_4 (by rw [← hl' 5 (by decide)]; exact hl))).elim), l6 := (fun hl0 => I2.l6 (by rw [← hl' 6 (by decide)]; exact hl0)), l7 := (fun hl0 => I2.l7 (by rw [← hl' 7 (by decide)]; exact hl0)), l8 := (fun hl0 => I2.l8 (by rw [← hl' 8 (by decide)]; exact hl0)), cz := (fun hz => by rw [hl' 6 (by decide)]; exact I2.cz hz), sep := (fun hl0 hl1 => I2.sep (by rw [← hl' 6 (by decide)]; exact hl0) (by rw [← hl' 7 (by decide)]; exact hl1)), c5_1 := (fun hl => by rw [hl' 1 (by decide)]; exact I.c5_1 (by rw [← hl' 5 (by decide)]; exact hl)), c5_3 := (fun hl => by rw [hl' 3 (by decide)]; exact I.c5_3 (by rw [← hl' 5 (by decide)]; exact hl)), c5_4 := (fun _ => by simp [hsz]), c8_6 := (fun hl => by rw [hl' 6 (by decide)]; exact I.c8_6 (by rw [← hl' 8 (by decide)]; exact hl)), c8_7 := (fun hl => by rw [hl' 7 (by decide)]; exact I.c8_7 (by rw [← hl' 8 (by decide)]; exact hl)) }⟩
      | 5, ho =>
        obtain rfl := Option.some.inj ho
        have hg1 := I.l1 (hall ⟨1, .data⟩ (by simp) (by rfl))
        obtain ⟨hx1, hf1⟩ := hg1
        subst hx1
        have hg3 := I.l3 (hall ⟨3, .data⟩ (by simp) (by rfl))
        obtain ⟨hx3, hf3⟩ := hg3
        subst hx3
        have hg4 := I.l4 (hall ⟨4, .data⟩ (by simp) (by rfl))
        obtain ⟨hx4, hf4⟩ := hg4
        subst hx4
        have I2 := I.below ((Below.refl _ _).alloc (Nat.le_refl _) (.cells #[.slice B1 6 d1, .slice B2 6 d2, .slice (some ⟨p4, 0, none⟩) 6 6] 33))
        refine value_ (v := .slice (some ⟨w'.heap.size, 0, none⟩) 3 3) (w1 := w'.alloc (.cells #[.slice B1 6 d1, .slice B2 6 d2, .slice (some ⟨p4, 0, none⟩) 6 6] 33)) (by rfl) rfl (by unfold SlRA; clear hl' hall hK I; go_simp) ?_
        exact hK.out _ _ ⟨x10, x35, .slice B1 6 d1, x37, .slice B2 6 d2, .slice (some ⟨p4, 0, none⟩) 6 6, .slice (some ⟨w'.heap.size, 0, none⟩) 3 3, x41, B1, d1, p1, B2, d2, p2, p4, w'.heap.size, C1, e1, L1, L2, R1, r1, z, p7, rfl, { b := I2.b, l0 := (fun hl0 => I2.l0 (by rw [← hl' 0 (by decide)]; exact hl0)), l1 := (fun hl => ⟨rfl, (I2.l1 (by rw [← hl' 1 (by decide)]; exact hl)).2⟩), l2 := (fun hl0 => I2.l2 (by rw [← hl' 2 (by decide)]; exact hl0)), l3 := (fun hl => ⟨rfl, (I2.l3 (by rw [← hl' 3 (by decide)]; exact hl)).2⟩), l4 := (fun hl => ⟨rfl, (I2.l4 (by rw [← hl' 4 (by decide)]; exact hl)).2⟩), l5 := (fun _ => ⟨rfl, fun _ => heap_alloc_new _ _⟩), l6 := (fun hl0 => I2.l6 (by rw [← hl' 6 (by decide)]; exact hl0)), l7 := (fun hl0 => I2.l7 (by rw [← hl' 7 (by decide)]; exact hl0)), l8 := (fun hl0 => I2.l8 (by rw [← hl' 8 (by decide)]; exact hl0)), cz := (fun hz => by rw [hl' 6 (by decide)]; exact I2.cz hz), sep := (fun hl0 hl1 => I2.sep (by rw [← hl' 6 (by decide)]; exact hl0) (by rw [← hl' 7 (by decide)]; exact hl1)), c5_1 := (fun _ => by rw [hl' 1 (by decide)]; exact hall ⟨1, .data⟩ (by simp) (by rfl)), c5_3 := (fun _ => by rw [hl' 3 (by decide)]; exact hall ⟨3, .data⟩ (by simp) (by rfl)), c5_4 := (fun _ => by rw [hl' 4 (by decide)]; exact hall ⟨4, .data⟩ (by simp) (by rfl)), c8_6 := (fun hl => by rw [hl' 6 (by decide)]; exact I.c8_6 (by rw [← hl' 8 (by decide)]; exact hl)), c8_7 := (fun hl => by rw [hl' 7 (by decide)]; exact I.c8_7 (by rw [← hl' 8 (by decide)]; exact hl)) }⟩
      | 6, ho =>
        obtain rfl := Option.some.inj ho
        have hg5 := I.l5 (hall ⟨5, .data⟩ (by simp) (by rfl))
        obtain ⟨hx5, hf5⟩ := hg5
        subst hx5
        have hz0 : z = false := by
          cases z with
          | false => rfl
          | true => exact (getD_no hun (I.cz rfl)).elim
        have hd5 := hall ⟨5, .data⟩ (by simp) (by rfl)
        have hsl5 := fun (h : l'.getD 5 false = true) => (I.l5 h).2 hz0
        have hpr1 := fun (h : l'.getD 5 false = true) => (I.l1 (I.c5_1 h)).2 hz0
        have hpr3 := fun (h : l'.getD 5 false = true) => (I.l3 (I.c5_3 h)).2 hz0
        have hpr4 := fun (h : l'.getD 5 false = true) => ((I.l4 (I.c5_4 h)).2 hz0).1
        refine goes_ Try.func12 (by kernel_rfl) rfl #[.int .i64 9, .slice (some ⟨p5, 0, none⟩) 3 3] (by rfl) rfl rfl (by (try simp only [List.map_toArray, List.map_cons, List.map_nil]); first | done | rfl) ?_
        with_reducible refine (hlk9 w' B1 B2 p4 p5 d1 d2 p1 p2 (hsl5 hd5) (hpr1 hd5) (hpr3 hd5) (hpr4 hd5)).mono ?_
        rintro y w6 ⟨⟨c1, e1', R1', r1', rfl, hF⟩, hb6⟩
        have I2 := I.below hb6
        refine ⟨_, rfl, ?_⟩
        exact hK.out _ _ ⟨x10, x35, x36, x37, x38, x39, .slice (some ⟨p5, 0, none⟩) 3 3, .agg #[.int .i64 1, .slice c1 1 e1'], B1, d1, p1, B2, d2, p2, p4, p5, c1, e1', w'.heap.size, w6.heap.size, R1', r1', true, p7, rfl, { b := I2.b, l0 := (fun hl0 => I2.l0 (by rw [← hl' 0 (by decide)]; exact hl0)), l1 := (fun hl => ⟨(I.l1 (by rw [← hl' 1 (by decide)]; exact hl)).1, fun hz => by cases hz⟩), l2 := (fun hl0 => I2.l2 (by rw [← hl' 2 (by decide)]; exact hl0)), l3 := (fun hl => ⟨(I.l3 (by rw [← hl' 3 (by decide)]; exact hl)).1, fun hz => by cases hz⟩), l4 := (fun hl => ⟨(I.l4 (by rw [← hl' 4 (by decide)]; exact hl)).1, fun hz => by cases hz⟩), l5 := (fun hl => ⟨(I.l5 (by rw [← hl' 5 (by decide)]; exact hl)).1, fun hz => by cases hz⟩), l6 := (fun _ => ⟨rfl, rfl, I.b.size, hb6.size, Nat.le_refl _, _, rfl, hF, fun _ _ _ => rfl⟩), l7 := (fun hl0 => I2.l7 (by rw [← hl' 7 (by decide)]; exact hl0)), l8 := (fun hl => (getD_no hun (I.c8_6 (by rw [← hl' 8 (by decide)]; exact hl))).elim), cz := (fun _ => by simp [hsz]), sep := (fun _ hl => .inl (by obtain ⟨_, _, _, _, h3⟩ := I.l7 (by rw [← hl' 7 (by decide)]; exact hl); exact (Array.getElem?_eq_some_iff.1 h3).1)), c5_1 := (fun hl => by rw [hl' 1 (by decide)]; exact I.c5_1 (by rw [← hl' 5 (by decide)]; exact hl)), c5_3 := (fun hl => by rw [hl' 3 (by decide)]; exact I.c5_3 (by rw [← hl' 5 (by decide)]; exact hl)), c5_4 := (fun hl => by rw [hl' 4 (by decide)]; exact I.c5_4 (by rw [← hl' 5 (by decide)]; exact hl)), c8_6 := (fun _ => by simp [hsz]), c8_7 := (fun hl => by rw [hl' 7 (by decide)]; exact I.c8_7 (by rw [← hl' 8 (by decide)]; exact hl)) }⟩
      | 7, ho =>
        obtain rfl := Option.some.inj ho
        have I2 := I.below ((Below.refl _ _).alloc (Nat.le_refl _) (.cells #[.int .i64 0, .slice none 0 0] 31))
        refine value_ (v := .pointer (some ⟨w'.heap.size, 0, none⟩)) (w1 := w'.alloc (.cells #[.int .i64 0, .slice none 0 0] 31)) (by rfl) rfl (by unfold SlRA; clear hl' hall hK I; go_simp) ?_
        exact hK.out _ _ ⟨.pointer (some ⟨w'.heap.size, 0, none⟩), x35, x36, x37, x38, x39, x40, x41, B1, d1, p1, B2, d2, p2, p4, p5, C1, e1, L1, L2, R1, r1, z, w'.heap.size, rfl, { b := I2.b, l0 := (fun hl0 => I2.l0 (by rw [← hl' 0 (by decide)]; exact hl0)), l1 := (fun hl0 => I2.l1 (by rw [← hl' 1 (by decide)]; exact hl0)), l2 := (fun hl0 => I2.l2 (by rw [← hl' 2 (by decide)]; exact hl0)), l3 := (fun hl0 => I2.l3 (by rw [← hl' 3 (by decide)]; exact hl0)), l4 := (fun hl0 => I2.l4 (by rw [← hl' 4 (by decide)]; exact hl0)), l5 := (fun hl0 => I2.l5 (by rw [← hl' 5 (by decide)]; exact hl0)), l6 := (fun hl0 => I2.l6 (by rw [← hl' 6 (by decide)]; exact hl0)), l7 := (fun _ => ⟨rfl, I.b.size, _, _, heap_alloc_new _ _⟩), l8 := (fun hl => (getD_no hun (I.c8_7 (by rw [← hl' 8 (by decide)]; exact hl))).elim), cz := (fun hz => by rw [hl' 6 (by decide)]; exact I2.cz hz), sep := (fun hl _ => .inr (by obtain ⟨_, _, _, _, h4, _⟩ := I.l6 (by rw [← hl' 6 (by decide)]; exact hl); exact h4)), c5_1 := (fun hl => by rw [hl' 1 (by decide)]; exact I.c5_1 (by rw [← hl' 5 (by decide)]; exact hl)), c5_3 := (fun hl => by rw [hl' 3 (by decide)]; exact I.c5_3 (by rw [← hl' 5 (by decide)]; exact hl)), c5_4 := (fun hl => by rw [hl' 4 (by decide)]; exact I.c5_4 (by rw [← hl' 5 (by decide)]; exact hl)), c8_6 := (fun hl => by rw [hl' 6 (by decide)]; exact I.c8_6 (by rw [← hl' 8 (by decide)]; exact hl)), c8_7 := (fun _ => by simp [hsz]) }⟩
      | 8, ho =>
        obtain rfl := Option.some.inj ho
        have hg6 := I.l6 (hall ⟨6, .data⟩ (by simp) (by rfl))
        obtain ⟨hx6, hf6⟩ := hg6
        subst hx6
        obtain ⟨hx7, hp7, v0, v1, h37⟩ := I.l7 (hall ⟨7, .data⟩ (by simp) (by rfl))
        subst hx7
        have k0 : w'.cell? ⟨p7, 0, none⟩ = some v0 := by simp [World.cell?, h37]
        have f0 : w'.frozen? ⟨p7, 0, none⟩ = false := by simp [World.frozen?, h37]
        have k1 : w'.cell? ⟨p7, 1, none⟩ = some v1 := by simp [World.cell?, h37]
        have f1 : w'.frozen? ⟨p7, 1, none⟩ = false := by simp [World.frozen?, h37]
        have hsep := I.sep (hall ⟨6, .data⟩ (by simp) (by rfl)) (hall ⟨7, .data⟩ (by simp) (by rfl))
        have hzt := hf6.1
        have hne : ∀ q, q ≠ p7 → ((w'.setCell ⟨p7, 0, none⟩ (.int .i64 1)).setCell ⟨p7, 1, none⟩ (.slice C1 1 e1)).heap[q]? = w'.heap[q]? := fun q hq => (Below.heap_setCell _ _ _ _ hq).trans (Below.heap_setCell _ _ _ _ hq)
        have hnew : ((w'.setCell ⟨p7, 0, none⟩ (.int .i64 1)).setCell ⟨p7, 1, none⟩ (.slice C1 1 e1)).heap[p7]? = some (.cells #[.int .i64 1, .slice C1 1 e1] 31 (0, 0)) := by simp [World.setCell, Array.getElem?_modify, h37]
        have hzz : ((w'.setCell ⟨p7, 0, none⟩ (.int .i64 1)).setCell ⟨p7, 1, none⟩ (.slice C1 1 e1)).heap.size = w'.heap.size := by simp [World.setCell]
        refine skip_ (w1 := ((w'.setCell ⟨p7, 0, none⟩ (.int .i64 1)).setCell ⟨p7, 1, none⟩ (.slice C1 1 e1))) (by rfl) rfl (by unfold SlRA; clear hl' hall hK I h37 hne hnew hzz; go_simp) ?_
        exact hK.out _ _ ⟨.pointer (some ⟨p7, 0, none⟩), x35, x36, x37, x38, x39, x40, .agg #[.int .i64 1, .slice C1 1 e1], B1, d1, p1, B2, d2, p2, p4, p5, C1, e1, L1, L2, R1, r1, z, p7, rfl, { b := ((I.b.setCell hp7 _).setCell hp7 _), l0 := (fun hl0 => I.l0 (by rw [← hl' 0 (by decide)]; exact hl0)), l1 := (fun hl => ⟨(I.l1 (by rw [← hl' 1 (by decide)]; exact hl)).1, fun hz => by rw [hzt] at hz; cases hz⟩), l2 := (fun hl0 => I.l2 (by rw [← hl' 2 (by decide)]; exact hl0)), l3 := (fun hl => ⟨(I.l3 (by rw [← hl' 3 (by decide)]; exact hl)).1, fun hz => by rw [hzt] at hz; cases hz⟩), l4 := (fun hl => ⟨(I.l4 (by rw [← hl' 4 (by decide)]; exact hl)).1, fun hz => by rw [hzt] at hz; cases hz⟩), l5 := (fun hl => ⟨(I.l5 (by rw [← hl' 5 (by decide)]; exact hl)).1, fun hz => by rw [hzt] at hz; cases hz⟩), l6 := (fun hl => by obtain ⟨h0, h1, h2, h3, h4, h5⟩ := I.l6 (by rw [← hl' 6 (by decide)]; exact hl); exact ⟨h0, h1, h2, h3, by rw [hzz]; exact h4, h5.keep (fun q k1 k2 => hne q (by have := hsep; omega))⟩), l7 := (fun _ => ⟨rfl, hp7, _, _, hnew⟩), l8 := (fun _ => hnew), cz := (fun hz => by rw [hl' 6 (by decide)]; exact I.cz hz), sep := (fun hl0 hl1 => I.sep (by rw [← hl' 6 (by decide)]; exact hl0) (by rw [← hl' 7 (by decide)]; exact hl1)), c5_1 := (fun hl => by rw [hl' 1 (by decide)]; exact I.c5_1 (by rw [← hl' 5 (by decide)]; exact hl)), c5_3 := (fun hl => by rw [hl' 3 (by decide)]; exact I.c5_3 (by rw [← hl' 5 (by decide)]; exact hl)), c5_4 := (fun hl => by rw [hl' 4 (by decide)]; exact I.c5_4 (by rw [← hl' 5 (by decide)]; exact hl)), c8_6 := (fun _ => by rw [hl' 6 (by decide)]; exact hall ⟨6, .data⟩ (by simp) (by rfl)), c8_7 := (fun _ => by rw [hl' 7 (by decide)]; exact hall ⟨7, .data⟩ (by simp) (by rfl)) }⟩
      | n + 9, ho => exact absurd ho (by simp)
    · rintro l' a w3 hall ⟨x10, x35, x36, x37, x38, x39, x40, x41, B1, d1, p1, B2, d2, p2, p4, p5, C1, e1, L1, L2, R1, r1, z, p7, rfl, I⟩
      have hz6 := I.l6 (hall 6 (by omega))
      obtain ⟨hzx6, hzf6⟩ := hz6
      subst hzx6
      have hz7 := I.l7 (hall 7 (by omega))
      obtain ⟨hzx7, hzp7, v0, v1, hzc7⟩ := hz7
      subst hzx7
      have hz8 := I.l8 (hall 8 (by omega))
      have hB := I.b
      clear I hall
      simp only [Exit.then]
      apply_assumption
      unfold SlRA
    -- }REGION
      obtain ⟨_, hL0, hL1, hL2, w0, hw0, hw00, hw000⟩ := hzf6
      have hRn : Rn w3 L1 (.slice C1 1 e1) [⟨1 + (s : Int), 0, R1, r1, S⟩] := hw00.of_same (by omega) (fun k h1 h2 => hw000 k h1 (by omega))
      clear hw00 hw000 hw0 w0
      obtain ⟨gb, rfl, hgb1, hgb2, hjunk⟩ := hRn.1.some_of (by omega)
      clear hjunk
      have hSl : S.length = 4 := by rw [unhide hS]; exact padE_len _ _
      have hcl : ∀ (j : Nat), j < 3 → w3.cell? ⟨gb, j, none⟩ = (RowD.arr ⟨1 + (s : Int), 0, R1, r1, S⟩)[j]? := fun j hj => by
        obtain ⟨b', o', e', _, _, hr⟩ := (hRn.1.sl (RowD.sized _) (by omega)).at_ (k := 0) (by simp)
        injection e' with e'
        injection e' with e2 e3 _
        subst e2 e3
        simpa using rd_cell hr j hj
      have q0 : w3.cell? ⟨gb, 0, none⟩ = some (.int .i64 (1 + (s : Int))) := hcl 0 (by omega)
      have q1 : w3.cell? ⟨gb, 1, none⟩ = some (.int .i64 0) := hcl 1 (by omega)
      have q2 : w3.cell? ⟨gb, 2, none⟩ = some (.slice R1 4 r1) := by have := hcl 2 (by omega); rw [this]; simp [RowD.arr, hSl]
      have u0 : w3.cell? ⟨p7, 0, none⟩ = some (.int .i64 1) := by simp [World.cell?, hz8]
      have u1 : w3.cell? ⟨p7, 1, none⟩ = some (.slice (some ⟨gb, 0, none⟩) 1 e1) := by simp [World.cell?, hz8]
      have hSs := (hRn.2 _ (List.mem_singleton.2 rfl)).1.2.2.2
      have hb3w := hb4.trans (hB.mono hb4.size)
      have hs3 := (hs4.below hB).more hB.size
      clear hcl hRn hz8 hzc7 hlk9 hpg1 hpg2
      replace hSl := hide hSl
      go_wp2_with fail
      go_loopw [11] (fun s11 wr => ∃ (i : Nat), i ≤ 4 ∧ s11 = .int .i64 i ∧ Below w3.heap.size w3 wr) (fun s11 _ => 4 - (intOf s11).toNat)
      case atStart => exact ⟨0, by omega, rfl, Below.refl _ _⟩
      case round =>
        obtain ⟨i, hi, rfl, hbr⟩ := hrel
        have hz := hbr.size
        by_cases hi4 : i < 4
        · have hi4I : (i : Int) < 4 := by omega
          have hi0 : (0 : Int) ≤ i := by omega
          have e0 := (hbr.cell (World.block_lt_of_cell? _ _ u1)).trans u1
          have e2 := (hbr.cell (World.block_lt_of_cell? _ _ q2)).trans q2
          obtain ⟨rb, ro, hR1e, _, hrbl, hrr⟩ := hSs.at_ (k := i) (by simp only [List.length_map]; rw [unhide hSl]; exact hi4)
          subst hR1e
          simp only [List.getElem_map] at hrr
          obtain ⟨X, hX⟩ : ∃ X, X = S[i]'(by rw [unhide hSl]; exact hi4) := ⟨_, rfl⟩
          rw [← hX] at hrr
          have hrr2 := (rd_below hbr hrbl _ _).trans hrr
          have hrbl2 : rb < wr.heap.size := by omega
          have hgz : goodE zeroE = zeroE := by unfold goodE zeroE; rfl
          have hcon := good_any zeroE wr wf_zero.1 wf_zero.2.1 wf_zero.2.2.1
          rw [hgz] at hcon
          replace hX := hide hX
          clear hrr
          have hXe : X = es1.getD i zeroE := by rw [unhide hX]; simp [unhide hS, padE]
          go_wp2_with fail
          refine hcon.mono ?_
          rintro x wz ⟨rfl, hbz⟩
          have g1 := (hbz.cell (World.block_lt_of_cell? _ _ e0)).trans e0
          have g2 := (hbz.cell (World.block_lt_of_cell? _ _ e2)).trans e2
          have hrr3 := (rd_below hbz hrbl2 _ _).trans hrr2
          have hrz : rb < wz.heap.size := by have := hbz.size; omega
          have hbw : Below w3.heap.size w3 (wz.alloc (.cells X.arr 54)) := (hbr.trans (hbz.mono hz)).alloc (by have := hbz.size; omega) _
          have hp7z : p7 < wz.heap.size := World.block_lt_of_cell? _ _ g1
          have hgbz : gb < wz.heap.size := World.block_lt_of_cell? _ _ g2
          by_cases hin : i < n1
          · have hinI : (i : Int) < n1 := by omega
            have hil : i < es1.length := by rw [unhide hn1']; exact hin
            obtain ⟨sb, so, rfl, _, hsbl, hsr⟩ := hs3.at_ (k := i) (by simpa using hil)
            simp only [List.getElem_map] at hsr
            have hsr2 := (rd_below hbz (show sb < wr.heap.size by omega) _ _).trans ((rd_below hbr hsbl _ _).trans hsr)
            have hXi : es1[i] = X := by rw [hXe, List.getD_eq_getElem?_getD, List.getElem?_eq_getElem hil]; rfl
            rw [hXi] at hsr2
            have hsbz : sb < wz.heap.size := by have := hbz.size; omega
            clear hXi hXe hsr hcon hgz hbz hrr2 e0 e2
            go_wp2_with fail
            go_quiet (fail)
            go_wp2_with fail
            go_roundw
            case rel => exact ⟨i + 1, by omega, by go_num, below_dN hbw _⟩
            case measure => simp [intOf]; omega
          · have hinI : ¬ (i : Int) < n1 := by omega
            have hXi : X = zeroE := by rw [hXe, List.getD_eq_getElem?_getD, List.getElem?_eq_none (by rw [unhide hn1']; omega)]; rfl
            rw [hXi] at hrr3 hbw
            clear hXe hXi hcon hgz hbz hrr2 e0 e2
            go_wp2_with fail
            go_quiet (fail)
            go_wp2_with fail
            go_roundw
            case rel => exact ⟨i + 1, by omega, by go_num, below_dN hbw _⟩
            case measure => simp [intOf]; omega
        · obtain rfl : i = 4 := by omega
          have hbF := hb3w.trans (hbr.mono hb3w.size)
          go_wp2_with fail
          go_ret
          exact ⟨rfl, hbF⟩
  · have hlI : ¬ (n : Int) ≤ 30 := by omega
    go_wp2_with fail
    go_ret
    exact ⟨rfl, hb1⟩
end Go.Proofs.Ytodbmgafejclmaa.Base
