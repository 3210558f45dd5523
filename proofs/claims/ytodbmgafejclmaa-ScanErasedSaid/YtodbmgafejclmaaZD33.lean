/-
  Parts of a proof, laid together by a program of mine (pack.py): Sn.
-/
import Derived.Lib.SliceRun
import Derived.Test.YtodbmgafejclmaaZD32
namespace Go.Proofs.Ytodbmgafejclmaa.Base
open Go.RowKit Go.Maps Go.Proofs.YtodbmgafejclmaaW.PrintWords Go.Proofs.YtodbmgafejclmaaW.PrintLast
open Go.Proofs.Ytodbmgafejclmaa.Fld Go.Proofs.Ytodbmgafejclmaa.Pl Go.Proofs.Ytodbmgafejclmaa.Kp Go.Proofs.Ytodbmgafejclmaa.Fw Go.Proofs.Ytodbmgafejclmaa.Co Go.Proofs.Ytodbmgafejclmaa.Cw Go.Proofs.Ytodbmgafejclmaa.Cd Go.Proofs.Ytodbmgafejclmaa.Rf
set_option linter.unusedSimpArgs false
set_option linter.unusedVariables false
attribute [local go_sem] wide_fn' wide_depth' Oper.semAt_some
set_option maxRecDepth 100000 in
theorem sound_any (s : Int) (A : Option Addr) (l c : Nat) (k : Int) (w : World) :
    Calls Try.prog 22 #[.int .i64 s, .slice A l c, .int .i64 k] w fun e w' => e = .returned (.func (.func 32) #[] #[.pointer (some ⟨w.heap.size + 2, 0, none⟩), .pointer (some ⟨w.heap.size, 0, none⟩), .pointer (some ⟨w.heap.size + 1, 0, none⟩)]) ∧
      w' = ((w.alloc (.cells #[.int .i64 s] 3)).alloc (.cells #[.slice A l c] 27)).alloc (.cells #[.int .i64 k] 3) := by
  go_enter Try.func22, Try.ntmps22
  go_wp2
  go_ret
  exact ⟨rfl, rfl⟩
set_option maxRecDepth 100000 in
set_option maxHeartbeats 1000000 in
theorem cloner_any (A : Option Addr) (c n : Nat) (T : List RowD) (w : World) (hn : n = T.length) (hpos : 0 < n) (hc : n ≤ c) (hm : n ≤ 1000) (base : Nat) (hbase : base ≤ w.heap.size) (hs : Rn w base (.slice A n c) T) :
    Calls Try.prog 23 #[.slice A n c] w fun x w' => ∃ A' c', x = .returned (.slice A' n c') ∧ n ≤ c' ∧ Rn w' base (.slice A' n c') T ∧ Below w.heap.size w w' := by
  have hsl : Sl w base w.heap.size 3 A (T.map RowD.arr) := hs.1.sl (RowD.sized T) (by omega)
  obtain ⟨b, o, rfl, _, _, _⟩ := hsl.pos (by rw [List.length_map]; omega)
  have hfl := (hsl.flat_cells (RowD.sized T) (by intro h; have := congrArg List.length h; rw [List.length_map] at this; simp at this; subst this; simp at hn; omega))
  obtain ⟨b', o', e', _, hb', hcl⟩ := hfl
  injection e' with e'
  injection e' with e1 e2 _
  subst e1 e2
  have hb0 : Below w.heap.size w (w.alloc (.cells #[] 39)) := (Below.refl _ _).alloc (Nat.le_refl _) _
  have hR0 : Rn (w.alloc (.cells #[] 39)) base (.slice (some ⟨w.heap.size, 0, none⟩) 0 0) [] := ⟨(Ow.empty w _ _).less hbase, fun t ht => by simp at ht⟩
  obtain ⟨A', c', w', hrun, hR, hg, hc'⟩ := Rn.app (w.alloc (.cells #[] 39)) base 0 (.slice (some ⟨w.heap.size, 0, none⟩) 0 0) [] hR0 rfl T n hn.symm ⟨b, o, none⟩ c (fun j u hu => by
      rw [Addr.add_mid]; exact (hb0.cell (p := ⟨b, o + j, none⟩) hb').trans (hcl j u hu)) (fun t ht => ⟨(hs.2 t ht).1.below hb0, fun a ha e => by
      obtain ⟨b2, o2, e2, _, h2⟩ := (hs.2 t ht).1.lt
      rw [ha] at e2; injection e2 with e2; subst e2
      simp only [Value.ownBlock, Option.some.injEq] at e
      omega⟩) (by omega) (by simp; omega) 29
  rw [Nat.zero_add, List.nil_append] at hR
  rw [Nat.zero_add] at hrun hc'
  have hb : Below w.heap.size w w' := below_grown hb0 hg (by simp) (fun k ek => by simp only [Value.ownBlock, Option.some.injEq] at ek; omega)
  replace hn := hide hn
  clear hs hsl hcl hR0
  have hq : ∀ (w : World) (a : Option Addr) (n c : Nat), (binOp .eql 29 (.slice a n c) (.slice none 0 0)).run Try.prog w = .ok (.bool a.isNone) w := fun w a n c => Lib.run_eql_slice_nil w _ _ a n c 0 0 Try.underlying29
  go_enter Try.func23, Try.ntmps23
  go_wp2_with (at_builtin; refine wpList_step (fun K hK => step_append_ex (o := ⟨some 7, _, _, _, _, _⟩) (.tmp 5) (.tmp 6) 29 rfl (by rfl) ?_); (with_reducible refine app_ex hrun ?_ (hK _ _ ?_)); rfl)
  go_ret
  exact ⟨A', c', rfl, hc', hR, hb⟩
theorem Sl.kpo {own : Nat → Prop} {w w' : World} {L B sz : Nat} {A : Option Addr} {xs : List (Array Value)} (h : Sl w L B sz A xs) (hk : KpO own w w') (hn : ∀ k, k < B → ¬ own k) : Sl w' L B sz A xs := fun hne => by
  obtain ⟨b, o, e, hL, hlt, hr⟩ := h hne
  exact ⟨b, o, e, hL, hlt, fun i hi => hk.rd (hr i hi) (hn b hlt)⟩
theorem PgOk.kpo {own : Nat → Prop} {w w' : World} {p : Pg} (h : PgOk w p) (hk : KpO own w w') (hn : ∀ k, k < w.heap.size → ¬ own k) : PgOk w' p :=
  ⟨h.1, h.2.1, (h.2.2.1.kpo hk hn).more hk.size, fun a ha => Nat.lt_of_lt_of_le (h.2.2.2.1 a ha) hk.size, h.2.2.2.2⟩
theorem PrOk.kpo {own : Nat → Prop} {w w' : World} {r : PR} (h : PrOk w r) (hk : KpO own w w') (hn : ∀ k, k < w.heap.size → ¬ own k) : PrOk w' r :=
  ⟨h.1, h.2.1, h.2.2.1, (h.2.2.2.1.kpo hk hn).more hk.size, fun p hp => (h.2.2.2.2 p hp).kpo hk hn⟩
def okL (j : Int) (dd : Option (Int × List Ent)) : List RowP := match dd with | some r => [(r.1, j, r.2)] | none => []
def DF (r : DecA) : Prop := match r.2 with | none => r.1 ≠ 0 | some q => r.1 = 0 ∧ 0 < q.2.length ∧ q.2.length ≤ 1000
theorem decP_form (s a : Int) (ps : List Pg) (most : Int) : DF (decP s a ps most) := by
  unfold decP
  by_cases h1 : 6 ≤ ps.length ∧ ps.length ≤ 8 ∧ 0 ≤ most ∧ most ≤ 2
  · rw [if_neg (not_not_intro h1)]
    by_cases h2 : 0 < zs ps ∨ most < (ps.length : Int) - gs ps
    · rw [if_pos h2]
      show early ps ≠ 0
      unfold early
      split
      · decide
      · split <;> decide
    · rw [if_neg h2]
      unfold decL
      by_cases h3 : fine48 ps ∧ rightR (fixR (pgB ps) (lostG 0 ps)) = true
      · rw [if_pos h3]
        cases hs : slotL s a 0 0 ((fixR (pgB ps) (lostG 0 ps)).take (ps.length - 2)) [] with
        | none => exact (by decide : (5 : Int) ≠ 0)
        | some q =>
          have hl := slotL_len s a _ _ _ _ q hs
          have hb : (pgB ps).length = ps.length := by simp [pgB]
          rw [List.length_nil, List.length_take, fixR_len, hb] at hl
          exact ⟨rfl, by omega, by omega⟩
      · rw [if_neg h3]
        exact (by decide : (5 : Int) ≠ 0)
  · rw [if_pos h1]
    exact (by decide : (1 : Int) ≠ 0)
/-- the row that is told lies in blocks that are new since an elder world -/
def SnM (n₀ : Nat) (W0 : World) (x : RowD) (W : World) : Prop := n₀ ≤ W0.heap.size ∧ Below W0.heap.size W0 W ∧ RowOk W W0.heap.size x
set_option maxRecDepth 100000 in
set_option maxHeartbeats 2000000 in
theorem sound1_c (own : Nat → Prop) (Bt Bs Br m₀ n₀ : Nat) (s : Int) (A : Option Addr) (c k : Nat) (T : List PR) (hBt : Bt < n₀) (hBs : Bs < n₀) (hBr : Br < n₀) (ht : ¬ own Bt ∧ ¬ own Bs ∧ ¬ own Br) (hm₀ : m₀ ≤ n₀) (ho1 : ∀ j, own j → m₀ ≤ j) (hsm : T.length ≤ 100000) (hk : k ≤ T.length) (w : World)
    (ft : w.heap[Bt]? = some (.cells #[.int .i64 k] 3 (0, 0))) (fs : w.heap[Bs]? = some (.cells #[.int .i64 s] 3 (0, 0))) (fl : w.heap[Br]? = some (.cells #[.slice A T.length c] 27 (0, 0))) (hs : Sl w 0 m₀ 1 A (T.map PR.arr)) (w00 : World) (h00 : w00.heap.size = m₀) (hT : PrsAt w00 T) (hB00 : Below m₀ w00 w) (h0 : n₀ ≤ w.heap.size) :
    IterM Try.prog 32 #[.pointer (some ⟨Bt, 0, none⟩), .pointer (some ⟨Bs, 0, none⟩), .pointer (some ⟨Br, 0, none⟩)] (fun x : RowD => #[.agg x.arr]) (fun A B => Below A.heap.size A B) (KpO own) (SnM n₀)
      (fun xs => xs.map RowD.pl = soundR s T k) (fun pre => pre.map RowD.pl <+: soundR s T k) k w := by
  intro l J Jx W hbW hJ hJx hY hJ0
  refine callsIn_of_wp Try.func32 rfl trivial ?_ rfl
  simp only [Try.ntmps32, List.size_toArray, List.length_cons, List.length_nil, Nat.reduceAdd, Nat.reduceSub, Array.replicate_succ, Array.replicate_zero, List.push_toArray, List.append_toArray, List.nil_append, List.cons_append]
  have hbW0 : Below n₀ w W := hbW.mono h0
  have g1 := (hbW0.block Bt hBt).trans ft
  have g2 := (hbW0.block Bs hBs).trans fs
  have g3 := (hbW0.block Br hBr).trans fl
  have g1c : W.cell? ⟨Bt, 0, none⟩ = some (.int .i64 k) := by simp [World.cell?, g1]
  have hsW : Sl W 0 m₀ 1 A (T.map PR.arr) := hs.below (hbW0.mono hm₀)
  have hmax : max (k : Int) 0 = k := by omega
  replace g1 := hide g1; replace g2 := hide g2; replace g3 := hide g3
  replace ft := hide ft; replace fs := hide fs; replace fl := hide fl
  clear hs
  gi_wp2
  gi_loopw [10] (fun s10 wr => ∃ (j : Nat) (pre : List RowD), j ≤ k ∧ s10 = .int .i64 j ∧ Hid (pre.map RowD.pl = soundR s T j) ∧ J pre wr ∧ KpO own W wr) (fun s10 _ => k - (intOf s10).toNat)
  case atStart => exact ⟨0, [], by omega, rfl, rfl, hJ0, KpO.refl _ _⟩
  case round =>
    clear hJ0
    obtain ⟨j, pre, hj, rfl, hpre, hJp, hkp⟩ := hrel
    have hz := hkp.size
    have d2 : wr.cell? ⟨Bs, 0, none⟩ = some (.int .i64 s) := by
      have := hkp.same Bs _ (unhide g2) rfl ht.2.1
      simp [World.cell?, this]
    have d3 : wr.cell? ⟨Br, 0, none⟩ = some (.slice A T.length c) := by
      have := hkp.same Br _ (unhide g3) rfl ht.2.2
      simp [World.cell?, this]
    by_cases hjk : j < k
    · have hjI : (j : Int) < k := by omega
      have hjT : j < T.length := by omega
      have hjTI : (j : Int) < T.length := by omega
      have hj0 : (0 : Int) ≤ j := by omega
      obtain ⟨b, o, rfl, _, hbl, hr⟩ := hsW.at_ (k := j) (by simpa using hjT)
      simp only [List.getElem_map] at hr
      have hr2 := hkp.rd hr (fun h => by have := ho1 b h; omega)
      obtain ⟨⟨A0, c0, ps⟩, hrT⟩ : ∃ r, r = T[j] := ⟨_, rfl⟩
      rw [← hrT] at hr2
      obtain ⟨nn, hnn⟩ : ∃ nn, nn = ps.length := ⟨_, rfl⟩
      have e0 : wr.cell? ⟨b, o + j, none⟩ = some (.slice A0 nn c0) := by rw [hnn]; have := rd_cell hr2 0 (by omega); rw [Nat.mul_one, Nat.add_zero] at this; exact this
      obtain ⟨⟨er, dd⟩, hd⟩ : ∃ r, r = decP s j ps 1 := ⟨_, rfl⟩
      have hdec : ∀ w', Below wr.heap.size wr w' → Calls Try.prog 24 #[.int .i64 s, .int .i64 j, .slice A0 nn c0, .int .i64 1] w' fun x w'' => (∃ r : RowD, x = .returned (.tuple #[.agg r.arr, .int .i64 er]) ∧ SnF dd j w'.heap.size w''.heap.size r w'') ∧ Below w'.heap.size w' w'' := fun w' hb' => by
        have hko : KpO own w00 w' := ((KpO.of_below (h00 ▸ hB00)).trans (KpO.of_below hbW)).trans (hkp.trans (KpO.of_below hb'))
        have hpr : PrOk w' (A0, c0, ps) := by
          have := hT T[j] (List.getElem_mem hjT)
          rw [← hrT] at this
          exact this.kpo hko (fun q hq ho => by have := ho1 q ho; omega)
        have hda := decode_all s j 1 A0 c0 nn ps w' hnn hpr.2.2.1 (by rw [hnn]; exact hpr.1) hpr.2.2.2.1 hpr.2.2.2.2
        rw [← hd] at hda
        refine hda.mono ?_
        rintro x w'' ⟨hx, hb''⟩
        refine ⟨?_, hb''⟩
        cases dd with
        | none => exact ⟨⟨0, 0, none, 0, []⟩, hx, rfl⟩
        | some q =>
          obtain ⟨A', c', h1, h2, h3⟩ := hx
          exact ⟨⟨q.1, j, A', c', q.2⟩, h1, rfl, h2, h3⟩
      have hps : pgsOf T j = ps := by unfold pgsOf; rw [List.getD_eq_getElem?_getD, List.getElem?_eq_getElem hjT]; show (T[j]).2.2 = ps; rw [← hrT]
      clear hr hr2 hrT
      replace hnn := hide hnn
      replace hd := hide hd
      gi_wp2
      refine wpIn_wide.2 ?_
      -- REGION3{
      refine region_inv 13 (fun l' a w => ∃ x6 x7 x13 x14 x15 x16 x17 x18 x19 x20 x21 x22 r B1 B2 p v0 v1 v2, a = snA l Bt Bs Br k j undef u23 u24 u25 u26 u27 u28 u29 u30 u31 x6 x7 x13 x14 x15 x16 x17 x18 x19 x20 x21 x22 ∧ SnI wr s j er dd b o T.length c nn c0 A0 l' x6 x7 x13 x14 x15 x16 x17 x18 x19 x20 x21 x22 r B1 B2 p v0 v1 v2 w) (by kernel_rfl) (by kernel_rfl) rfl ?_ ?_ ?_
      · refine ⟨_, _, _, _, _, _, _, _, _, _, _, _, ⟨0, 0, none, 0, []⟩, 0, 0, 0, undef, undef, undef, rfl, { b := (Below.refl _ _).drew, l0 := (fun hl => by cases hl), l1 := (fun hl => by cases hl), l2 := (fun hl => by cases hl), l3 := (fun hl => by cases hl), l4 := (fun hl => by cases hl), l5 := (fun hl => by cases hl), l6 := (fun hl => by cases hl), l7 := (fun hl => by cases hl), l8 := (fun hl => by cases hl), l9 := (fun hl => by cases hl), l12 := (fun hl => by cases hl), l10 := (fun hl => by cases hl), l11 := (fun hl => by cases hl), sep := (fun hl => by cases hl), c7 := (fun hl => by cases hl), c8 := (fun hl => by cases hl), c11 := (fun hl => by cases hl), d11 := (fun hl => by cases hl) }⟩
      · rintro l' a w' i oo ho hun hall hsz ⟨x6, x7, x13, x14, x15, x16, x17, x18, x19, x20, x21, x22, r, B1, B2, p, v0, v1, v2, rfl, I⟩ K hK
        have hl' : ∀ q, i ≠ q → (l'.setIfInBounds i true).getD q false = l'.getD q false := fun q hq => getD_set_ne false hq
        have q2 : w'.cell? ⟨Bs, 0, none⟩ = some (.int .i64 s) := (I.b.cell (p := ⟨Bs, 0, none⟩) (World.block_lt_of_cell? _ _ d2)).trans d2
        have q3 : w'.cell? ⟨Br, 0, none⟩ = some (.slice (some ⟨b, o, none⟩) T.length c) := (I.b.cell (p := ⟨Br, 0, none⟩) (World.block_lt_of_cell? _ _ d3)).trans d3
        have q5 : w'.cell? ⟨b, o + j, none⟩ = some (.slice A0 nn c0) := (I.b.cell (p := ⟨b, o + j, none⟩) (World.block_lt_of_cell? _ _ e0)).trans e0
        match i, ho with
        | 0, ho =>
          obtain rfl := Option.some.inj ho
          refine value_ (v := .int .i64 s) (w1 := w') (by rfl) rfl (by unfold snA; clear hl' hall hK I; go_simp) ?_
          exact hK.out _ _ ⟨x6, x7, x13, .int .i64 s, x15, x16, x17, x18, x19, x20, x21, x22, r, B1, B2, p, v0, v1, v2, rfl, { b := I.b, l0 := (fun _ => rfl), l1 := (fun hl0 => I.l1 (by rw [← hl' 1 (by decide)]; exact hl0)), l2 := (fun hl0 => I.l2 (by rw [← hl' 2 (by decide)]; exact hl0)), l3 := (fun hl0 => I.l3 (by rw [← hl' 3 (by decide)]; exact hl0)), l4 := (fun hl0 => I.l4 (by rw [← hl' 4 (by decide)]; exact hl0)), l5 := (fun hl0 => I.l5 (by rw [← hl' 5 (by decide)]; exact hl0)), l6 := (fun hl0 => I.l6 (by rw [← hl' 6 (by decide)]; exact hl0)), l7 := (fun hl0 => I.l7 (by rw [← hl' 7 (by decide)]; exact hl0)), l8 := (fun hl0 => I.l8 (by rw [← hl' 8 (by decide)]; exact hl0)), l9 := (fun hl0 => I.l9 (by rw [← hl' 9 (by decide)]; exact hl0)), l12 := (fun hl0 => I.l12 (by rw [← hl' 12 (by decide)]; exact hl0)), l10 := (fun hl0 => I.l10 (by rw [← hl' 10 (by decide)]; exact hl0)), sep := (fun hl0 hl1 => I.sep (by rw [← hl' 6 (by decide)]; exact hl0) (by rw [← hl' 10 (by decide)]; exact hl1)), l11 := (fun hl0 => I.l11 (by rw [← hl' 11 (by decide)]; exact hl0)), c7 := (fun hl => by rw [hl' 6 (by decide)]; exact I.c7 (by rw [← hl' 7 (by decide)]; exact hl)), c8 := (fun hl => by rw [hl' 6 (by decide)]; exact I.c8 (by rw [← hl' 8 (by decide)]; exact hl)), c11 := (fun hl => by rw [hl' 6 (by decide)]; exact I.c11 (by rw [← hl' 11 (by decide)]; exact hl)), d11 := (fun hl => by rw [hl' 10 (by decide)]; exact I.d11 (by rw [← hl' 11 (by decide)]; exact hl)) }⟩
        | 1, ho =>
          obtain rfl := Option.some.inj ho
          refine value_ (v := .int .i64 j) (w1 := w') (by rfl) rfl (by unfold snA; clear hl' hall hK I; go_simp) ?_
          exact hK.out _ _ ⟨x6, x7, x13, x14, .int .i64 j, x16, x17, x18, x19, x20, x21, x22, r, B1, B2, p, v0, v1, v2, rfl, { b := I.b, l0 := (fun hl0 => I.l0 (by rw [← hl' 0 (by decide)]; exact hl0)), l1 := (fun _ => rfl), l2 := (fun hl0 => I.l2 (by rw [← hl' 2 (by decide)]; exact hl0)), l3 := (fun hl0 => I.l3 (by rw [← hl' 3 (by decide)]; exact hl0)), l4 := (fun hl0 => I.l4 (by rw [← hl' 4 (by decide)]; exact hl0)), l5 := (fun hl0 => I.l5 (by rw [← hl' 5 (by decide)]; exact hl0)), l6 := (fun hl0 => I.l6 (by rw [← hl' 6 (by decide)]; exact hl0)), l7 := (fun hl0 => I.l7 (by rw [← hl' 7 (by decide)]; exact hl0)), l8 := (fun hl0 => I.l8 (by rw [← hl' 8 (by decide)]; exact hl0)), l9 := (fun hl0 => I.l9 (by rw [← hl' 9 (by decide)]; exact hl0)), l12 := (fun hl0 => I.l12 (by rw [← hl' 12 (by decide)]; exact hl0)), l10 := (fun hl0 => I.l10 (by rw [← hl' 10 (by decide)]; exact hl0)), sep := (fun hl0 hl1 => I.sep (by rw [← hl' 6 (by decide)]; exact hl0) (by rw [← hl' 10 (by decide)]; exact hl1)), l11 := (fun hl0 => I.l11 (by rw [← hl' 11 (by decide)]; exact hl0)), c7 := (fun hl => by rw [hl' 6 (by decide)]; exact I.c7 (by rw [← hl' 7 (by decide)]; exact hl)), c8 := (fun hl => by rw [hl' 6 (by decide)]; exact I.c8 (by rw [← hl' 8 (by decide)]; exact hl)), c11 := (fun hl => by rw [hl' 6 (by decide)]; exact I.c11 (by rw [← hl' 11 (by decide)]; exact hl)), d11 := (fun hl => by rw [hl' 10 (by decide)]; exact I.d11 (by rw [← hl' 11 (by decide)]; exact hl)) }⟩
        | 2, ho =>
          obtain rfl := Option.some.inj ho
          refine value_ (v := .slice (some ⟨b, o, none⟩) T.length c) (w1 := w') (by rfl) rfl (by unfold snA; clear hl' hall hK I; go_simp) ?_
          exact hK.out _ _ ⟨x6, x7, x13, x14, x15, .slice (some ⟨b, o, none⟩) T.length c, x17, x18, x19, x20, x21, x22, r, B1, B2, p, v0, v1, v2, rfl, { b := I.b, l0 := (fun hl0 => I.l0 (by rw [← hl' 0 (by decide)]; exact hl0)), l1 := (fun hl0 => I.l1 (by rw [← hl' 1 (by decide)]; exact hl0)), l2 := (fun _ => rfl), l3 := (fun hl0 => I.l3 (by rw [← hl' 3 (by decide)]; exact hl0)), l4 := (fun hl0 => I.l4 (by rw [← hl' 4 (by decide)]; exact hl0)), l5 := (fun hl0 => I.l5 (by rw [← hl' 5 (by decide)]; exact hl0)), l6 := (fun hl0 => I.l6 (by rw [← hl' 6 (by decide)]; exact hl0)), l7 := (fun hl0 => I.l7 (by rw [← hl' 7 (by decide)]; exact hl0)), l8 := (fun hl0 => I.l8 (by rw [← hl' 8 (by decide)]; exact hl0)), l9 := (fun hl0 => I.l9 (by rw [← hl' 9 (by decide)]; exact hl0)), l12 := (fun hl0 => I.l12 (by rw [← hl' 12 (by decide)]; exact hl0)), l10 := (fun hl0 => I.l10 (by rw [← hl' 10 (by decide)]; exact hl0)), sep := (fun hl0 hl1 => I.sep (by rw [← hl' 6 (by decide)]; exact hl0) (by rw [← hl' 10 (by decide)]; exact hl1)), l11 := (fun hl0 => I.l11 (by rw [← hl' 11 (by decide)]; exact hl0)), c7 := (fun hl => by rw [hl' 6 (by decide)]; exact I.c7 (by rw [← hl' 7 (by decide)]; exact hl)), c8 := (fun hl => by rw [hl' 6 (by decide)]; exact I.c8 (by rw [← hl' 8 (by decide)]; exact hl)), c11 := (fun hl => by rw [hl' 6 (by decide)]; exact I.c11 (by rw [← hl' 11 (by decide)]; exact hl)), d11 := (fun hl => by rw [hl' 10 (by decide)]; exact I.d11 (by rw [← hl' 11 (by decide)]; exact hl)) }⟩
        | 3, ho =>
          obtain rfl := Option.some.inj ho
          refine value_ (v := .int .i64 j) (w1 := w') (by rfl) rfl (by unfold snA; clear hl' hall hK I; go_simp) ?_
          exact hK.out _ _ ⟨x6, x7, x13, x14, x15, x16, .int .i64 j, x18, x19, x20, x21, x22, r, B1, B2, p, v0, v1, v2, rfl, { b := I.b, l0 := (fun hl0 => I.l0 (by rw [← hl' 0 (by decide)]; exact hl0)), l1 := (fun hl0 => I.l1 (by rw [← hl' 1 (by decide)]; exact hl0)), l2 := (fun hl0 => I.l2 (by rw [← hl' 2 (by decide)]; exact hl0)), l3 := (fun _ => rfl), l4 := (fun hl0 => I.l4 (by rw [← hl' 4 (by decide)]; exact hl0)), l5 := (fun hl0 => I.l5 (by rw [← hl' 5 (by decide)]; exact hl0)), l6 := (fun hl0 => I.l6 (by rw [← hl' 6 (by decide)]; exact hl0)), l7 := (fun hl0 => I.l7 (by rw [← hl' 7 (by decide)]; exact hl0)), l8 := (fun hl0 => I.l8 (by rw [← hl' 8 (by decide)]; exact hl0)), l9 := (fun hl0 => I.l9 (by rw [← hl' 9 (by decide)]; exact hl0)), l12 := (fun hl0 => I.l12 (by rw [← hl' 12 (by decide)]; exact hl0)), l10 := (fun hl0 => I.l10 (by rw [← hl' 10 (by decide)]; exact hl0)), sep := (fun hl0 hl1 => I.sep (by rw [← hl' 6 (by decide)]; exact hl0) (by rw [← hl' 10 (by decide)]; exact hl1)), l11 := (fun hl0 => I.l11 (by rw [← hl' 11 (by decide)]; exact hl0)), c7 := (fun hl => by rw [hl' 6 (by decide)]; exact I.c7 (by rw [← hl' 7 (by decide)]; exact hl)), c8 := (fun hl => by rw [hl' 6 (by decide)]; exact I.c8 (by rw [← hl' 8 (by decide)]; exact hl)), c11 := (fun hl => by rw [hl' 6 (by decide)]; exact I.c11 (by rw [← hl' 11 (by decide)]; exact hl)), d11 := (fun hl => by rw [hl' 10 (by decide)]; exact I.d11 (by rw [← hl' 11 (by decide)]; exact hl)) }⟩
        | 4, ho =>
          obtain rfl := Option.some.inj ho
          have hg2 := I.l2 (hall ⟨2, .data⟩ (by simp) (by rfl))
          have hg3 := I.l3 (hall ⟨3, .data⟩ (by simp) (by rfl))
          subst hg2 hg3
          refine value_ (v := .pointer (some ⟨b, o + j, none⟩)) (w1 := w') (by rfl) rfl (by unfold snA; clear hl' hall hK I; go_simp) ?_
          exact hK.out _ _ ⟨x6, x7, x13, x14, x15, .slice (some ⟨b, o, none⟩) T.length c, .int .i64 j, .pointer (some ⟨b, o + j, none⟩), x19, x20, x21, x22, r, B1, B2, p, v0, v1, v2, rfl, { b := I.b, l0 := (fun hl0 => I.l0 (by rw [← hl' 0 (by decide)]; exact hl0)), l1 := (fun hl0 => I.l1 (by rw [← hl' 1 (by decide)]; exact hl0)), l2 := (fun hl0 => I.l2 (by rw [← hl' 2 (by decide)]; exact hl0)), l3 := (fun hl0 => I.l3 (by rw [← hl' 3 (by decide)]; exact hl0)), l4 := (fun _ => by simp), l5 := (fun hl0 => I.l5 (by rw [← hl' 5 (by decide)]; exact hl0)), l6 := (fun hl0 => I.l6 (by rw [← hl' 6 (by decide)]; exact hl0)), l7 := (fun hl0 => I.l7 (by rw [← hl' 7 (by decide)]; exact hl0)), l8 := (fun hl0 => I.l8 (by rw [← hl' 8 (by decide)]; exact hl0)), l9 := (fun hl0 => I.l9 (by rw [← hl' 9 (by decide)]; exact hl0)), l12 := (fun hl0 => I.l12 (by rw [← hl' 12 (by decide)]; exact hl0)), l10 := (fun hl0 => I.l10 (by rw [← hl' 10 (by decide)]; exact hl0)), sep := (fun hl0 hl1 => I.sep (by rw [← hl' 6 (by decide)]; exact hl0) (by rw [← hl' 10 (by decide)]; exact hl1)), l11 := (fun hl0 => I.l11 (by rw [← hl' 11 (by decide)]; exact hl0)), c7 := (fun hl => by rw [hl' 6 (by decide)]; exact I.c7 (by rw [← hl' 7 (by decide)]; exact hl)), c8 := (fun hl => by rw [hl' 6 (by decide)]; exact I.c8 (by rw [← hl' 8 (by decide)]; exact hl)), c11 := (fun hl => by rw [hl' 6 (by decide)]; exact I.c11 (by rw [← hl' 11 (by decide)]; exact hl)), d11 := (fun hl => by rw [hl' 10 (by decide)]; exact I.d11 (by rw [← hl' 11 (by decide)]; exact hl)) }⟩
        | 5, ho =>
          obtain rfl := Option.some.inj ho
          have hg4 := I.l4 (hall ⟨4, .data⟩ (by simp) (by rfl))
          subst hg4
          simp only [Int.toNat_natCast] at *
          refine value_ (v := .slice A0 nn c0) (w1 := w') (by rfl) rfl (by unfold snA; clear hl' hall hK I; go_simp) ?_
          exact hK.out _ _ ⟨x6, x7, x13, x14, x15, x16, x17, .pointer (some ⟨b, o + j, none⟩), .slice A0 nn c0, x20, x21, x22, r, B1, B2, p, v0, v1, v2, rfl, { b := I.b, l0 := (fun hl0 => I.l0 (by rw [← hl' 0 (by decide)]; exact hl0)), l1 := (fun hl0 => I.l1 (by rw [← hl' 1 (by decide)]; exact hl0)), l2 := (fun hl0 => I.l2 (by rw [← hl' 2 (by decide)]; exact hl0)), l3 := (fun hl0 => I.l3 (by rw [← hl' 3 (by decide)]; exact hl0)), l4 := (fun hl0 => I.l4 (by rw [← hl' 4 (by decide)]; exact hl0)), l5 := (fun _ => rfl), l6 := (fun hl0 => I.l6 (by rw [← hl' 6 (by decide)]; exact hl0)), l7 := (fun hl0 => I.l7 (by rw [← hl' 7 (by decide)]; exact hl0)), l8 := (fun hl0 => I.l8 (by rw [← hl' 8 (by decide)]; exact hl0)), l9 := (fun hl0 => I.l9 (by rw [← hl' 9 (by decide)]; exact hl0)), l12 := (fun hl0 => I.l12 (by rw [← hl' 12 (by decide)]; exact hl0)), l10 := (fun hl0 => I.l10 (by rw [← hl' 10 (by decide)]; exact hl0)), sep := (fun hl0 hl1 => I.sep (by rw [← hl' 6 (by decide)]; exact hl0) (by rw [← hl' 10 (by decide)]; exact hl1)), l11 := (fun hl0 => I.l11 (by rw [← hl' 11 (by decide)]; exact hl0)), c7 := (fun hl => by rw [hl' 6 (by decide)]; exact I.c7 (by rw [← hl' 7 (by decide)]; exact hl)), c8 := (fun hl => by rw [hl' 6 (by decide)]; exact I.c8 (by rw [← hl' 8 (by decide)]; exact hl)), c11 := (fun hl => by rw [hl' 6 (by decide)]; exact I.c11 (by rw [← hl' 11 (by decide)]; exact hl)), d11 := (fun hl => by rw [hl' 10 (by decide)]; exact I.d11 (by rw [← hl' 11 (by decide)]; exact hl)) }⟩
        | 6, ho =>
          obtain rfl := Option.some.inj ho
          have hg0 := I.l0 (hall ⟨0, .data⟩ (by simp) (by rfl))
          have hg1 := I.l1 (hall ⟨1, .data⟩ (by simp) (by rfl))
          have hg5 := I.l5 (hall ⟨5, .data⟩ (by simp) (by rfl))
          subst hg0 hg1 hg5
          refine goes_ Try.func24 (by kernel_rfl) rfl #[.int .i64 s, .int .i64 j, .slice A0 nn c0, .int .i64 1] (by rfl) rfl rfl (by (try simp only [List.map_toArray, List.map_cons, List.map_nil]); first | done | rfl) ?_
          with_reducible refine (hdec w' I.b).mono ?_
          rintro y w6 ⟨⟨r6, rfl, hF⟩, hb6⟩
          have I2 := I.below hb6
          refine ⟨_, rfl, ?_⟩
          exact hK.out _ _ ⟨x6, x7, x13, .int .i64 s, .int .i64 j, x16, x17, x18, .slice A0 nn c0, .tuple #[.agg r6.arr, .int .i64 er], x21, x22, r6, w'.heap.size, w6.heap.size, p, v0, v1, v2, rfl, { b := I2.b, l0 := (fun hl0 => I2.l0 (by rw [← hl' 0 (by decide)]; exact hl0)), l1 := (fun hl0 => I2.l1 (by rw [← hl' 1 (by decide)]; exact hl0)), l2 := (fun hl0 => I2.l2 (by rw [← hl' 2 (by decide)]; exact hl0)), l3 := (fun hl0 => I2.l3 (by rw [← hl' 3 (by decide)]; exact hl0)), l4 := (fun hl0 => I2.l4 (by rw [← hl' 4 (by decide)]; exact hl0)), l5 := (fun hl0 => I2.l5 (by rw [← hl' 5 (by decide)]; exact hl0)), l6 := (fun _ => ⟨rfl, I.b.size, hb6.size, Nat.le_refl _, hF⟩), l7 := (fun hl => (getD_no hun (I.c7 (by rw [← hl' 7 (by decide)]; exact hl))).elim), l8 := (fun hl => (getD_no hun (I.c8 (by rw [← hl' 8 (by decide)]; exact hl))).elim), l9 := (fun hl0 => I2.l9 (by rw [← hl' 9 (by decide)]; exact hl0)), l12 := (fun hl0 => I2.l12 (by rw [← hl' 12 (by decide)]; exact hl0)), l10 := (fun hl0 => I2.l10 (by rw [← hl' 10 (by decide)]; exact hl0)), sep := (fun _ hl => .inl (Array.getElem?_eq_some_iff.1 (I.l10 (by rw [← hl' 10 (by decide)]; exact hl)).2.2).1), l11 := (fun hl => (getD_no hun (I.c11 (by rw [← hl' 11 (by decide)]; exact hl))).elim), c7 := (fun _ => by simp [hsz]), c8 := (fun _ => by simp [hsz]), c11 := (fun _ => by simp [hsz]), d11 := (fun hl => by rw [hl' 10 (by decide)]; exact I2.d11 (by rw [← hl' 11 (by decide)]; exact hl)) }⟩
        | 7, ho =>
          obtain rfl := Option.some.inj ho
          have hg6 := I.l6 (hall ⟨6, .data⟩ (by simp) (by rfl))
          obtain ⟨hx, hg6'⟩ := hg6
          subst hx
          refine value_ (v := .tuple #[.agg r.arr, .int .i64 er]) (w1 := w') (by rfl) rfl (by unfold snA; clear hl' hall hK I; go_simp) ?_
          exact hK.out _ _ ⟨x6, x7, .tuple #[.agg r.arr, .int .i64 er], x14, x15, x16, x17, x18, x19, .tuple #[.agg r.arr, .int .i64 er], x21, x22, r, B1, B2, p, v0, v1, v2, rfl, { b := I.b, l0 := (fun hl0 => I.l0 (by rw [← hl' 0 (by decide)]; exact hl0)), l1 := (fun hl0 => I.l1 (by rw [← hl' 1 (by decide)]; exact hl0)), l2 := (fun hl0 => I.l2 (by rw [← hl' 2 (by decide)]; exact hl0)), l3 := (fun hl0 => I.l3 (by rw [← hl' 3 (by decide)]; exact hl0)), l4 := (fun hl0 => I.l4 (by rw [← hl' 4 (by decide)]; exact hl0)), l5 := (fun hl0 => I.l5 (by rw [← hl' 5 (by decide)]; exact hl0)), l6 := (fun hl => ⟨rfl, hg6'⟩), l7 := (fun _ => rfl), l8 := (fun hl0 => I.l8 (by rw [← hl' 8 (by decide)]; exact hl0)), l9 := (fun hl0 => I.l9 (by rw [← hl' 9 (by decide)]; exact hl0)), l12 := (fun hl0 => I.l12 (by rw [← hl' 12 (by decide)]; exact hl0)), l10 := (fun hl0 => I.l10 (by rw [← hl' 10 (by decide)]; exact hl0)), sep := (fun hl0 hl1 => I.sep (by rw [← hl' 6 (by decide)]; exact hl0) (by rw [← hl' 10 (by decide)]; exact hl1)), l11 := (fun hl0 => I.l11 (by rw [← hl' 11 (by decide)]; exact hl0)), c7 := (fun _ => by rw [hl' 6 (by decide)]; exact hall ⟨6, .data⟩ (by simp) (by rfl)), c8 := (fun hl => by rw [hl' 6 (by decide)]; exact I.c8 (by rw [← hl' 8 (by decide)]; exact hl)), c11 := (fun hl => by rw [hl' 6 (by decide)]; exact I.c11 (by rw [← hl' 11 (by decide)]; exact hl)), d11 := (fun hl => by rw [hl' 10 (by decide)]; exact I.d11 (by rw [← hl' 11 (by decide)]; exact hl)) }⟩
        | 8, ho =>
          obtain rfl := Option.some.inj ho
          have hg7 := I.l7 (hall ⟨7, .data⟩ (by simp) (by rfl))
          subst hg7
          refine value_ (v := .agg r.arr) (w1 := w') (by rfl) rfl (by unfold snA; clear hl' hall hK I; go_simp) ?_
          exact hK.out _ _ ⟨x6, x7, .tuple #[.agg r.arr, .int .i64 er], x14, x15, x16, x17, x18, x19, x20, .agg r.arr, x22, r, B1, B2, p, v0, v1, v2, rfl, { b := I.b, l0 := (fun hl0 => I.l0 (by rw [← hl' 0 (by decide)]; exact hl0)), l1 := (fun hl0 => I.l1 (by rw [← hl' 1 (by decide)]; exact hl0)), l2 := (fun hl0 => I.l2 (by rw [← hl' 2 (by decide)]; exact hl0)), l3 := (fun hl0 => I.l3 (by rw [← hl' 3 (by decide)]; exact hl0)), l4 := (fun hl0 => I.l4 (by rw [← hl' 4 (by decide)]; exact hl0)), l5 := (fun hl0 => I.l5 (by rw [← hl' 5 (by decide)]; exact hl0)), l6 := (fun hl0 => I.l6 (by rw [← hl' 6 (by decide)]; exact hl0)), l7 := (fun _ => rfl), l8 := (fun _ => rfl), l9 := (fun hl0 => I.l9 (by rw [← hl' 9 (by decide)]; exact hl0)), l12 := (fun hl0 => I.l12 (by rw [← hl' 12 (by decide)]; exact hl0)), l10 := (fun hl0 => I.l10 (by rw [← hl' 10 (by decide)]; exact hl0)), sep := (fun hl0 hl1 => I.sep (by rw [← hl' 6 (by decide)]; exact hl0) (by rw [← hl' 10 (by decide)]; exact hl1)), l11 := (fun hl0 => I.l11 (by rw [← hl' 11 (by decide)]; exact hl0)), c7 := (fun hl => by rw [hl' 6 (by decide)]; exact I.c7 (by rw [← hl' 7 (by decide)]; exact hl)), c8 := (fun _ => by rw [hl' 6 (by decide)]; exact I.c7 (hall ⟨7, .data⟩ (by simp) (by rfl))), c11 := (fun hl => by rw [hl' 6 (by decide)]; exact I.c11 (by rw [← hl' 11 (by decide)]; exact hl)), d11 := (fun hl => by rw [hl' 10 (by decide)]; exact I.d11 (by rw [← hl' 11 (by decide)]; exact hl)) }⟩
        | 9, ho =>
          obtain rfl := Option.some.inj ho
          have hg7 := I.l7 (hall ⟨7, .data⟩ (by simp) (by rfl))
          subst hg7
          refine value_ (v := .int .i64 er) (w1 := w') (by rfl) rfl (by unfold snA; clear hl' hall hK I; go_simp) ?_
          exact hK.out _ _ ⟨x6, x7, .tuple #[.agg r.arr, .int .i64 er], x14, x15, x16, x17, x18, x19, x20, x21, .int .i64 er, r, B1, B2, p, v0, v1, v2, rfl, { b := I.b, l0 := (fun hl0 => I.l0 (by rw [← hl' 0 (by decide)]; exact hl0)), l1 := (fun hl0 => I.l1 (by rw [← hl' 1 (by decide)]; exact hl0)), l2 := (fun hl0 => I.l2 (by rw [← hl' 2 (by decide)]; exact hl0)), l3 := (fun hl0 => I.l3 (by rw [← hl' 3 (by decide)]; exact hl0)), l4 := (fun hl0 => I.l4 (by rw [← hl' 4 (by decide)]; exact hl0)), l5 := (fun hl0 => I.l5 (by rw [← hl' 5 (by decide)]; exact hl0)), l6 := (fun hl0 => I.l6 (by rw [← hl' 6 (by decide)]; exact hl0)), l7 := (fun _ => rfl), l8 := (fun hl0 => I.l8 (by rw [← hl' 8 (by decide)]; exact hl0)), l9 := (fun _ => rfl), l12 := (fun hl0 => I.l12 (by rw [← hl' 12 (by decide)]; exact hl0)), l10 := (fun hl0 => I.l10 (by rw [← hl' 10 (by decide)]; exact hl0)), sep := (fun hl0 hl1 => I.sep (by rw [← hl' 6 (by decide)]; exact hl0) (by rw [← hl' 10 (by decide)]; exact hl1)), l11 := (fun hl0 => I.l11 (by rw [← hl' 11 (by decide)]; exact hl0)), c7 := (fun hl => by rw [hl' 6 (by decide)]; exact I.c7 (by rw [← hl' 7 (by decide)]; exact hl)), c8 := (fun hl => by rw [hl' 6 (by decide)]; exact I.c8 (by rw [← hl' 8 (by decide)]; exact hl)), c11 := (fun hl => by rw [hl' 6 (by decide)]; exact I.c11 (by rw [← hl' 11 (by decide)]; exact hl)), d11 := (fun hl => by rw [hl' 10 (by decide)]; exact I.d11 (by rw [← hl' 11 (by decide)]; exact hl)) }⟩
        | 10, ho =>
          obtain rfl := Option.some.inj ho
          have I2 := I.below ((Below.refl _ _).alloc (Nat.le_refl _) (.cells #[.int .i64 0, .int .i64 0, .slice none 0 0] 39))
          refine value_ (v := .pointer (some ⟨w'.heap.size, 0, none⟩)) (w1 := w'.alloc (.cells #[.int .i64 0, .int .i64 0, .slice none 0 0] 39)) (by rfl) rfl (by unfold snA; clear hl' hall hK I; go_simp) ?_
          exact hK.out _ _ ⟨.pointer (some ⟨w'.heap.size, 0, none⟩), x7, x13, x14, x15, x16, x17, x18, x19, x20, x21, x22, r, B1, B2, w'.heap.size, .int .i64 0, .int .i64 0, .slice none 0 0, rfl, { b := I2.b, l0 := (fun hl0 => I2.l0 (by rw [← hl' 0 (by decide)]; exact hl0)), l1 := (fun hl0 => I2.l1 (by rw [← hl' 1 (by decide)]; exact hl0)), l2 := (fun hl0 => I2.l2 (by rw [← hl' 2 (by decide)]; exact hl0)), l3 := (fun hl0 => I2.l3 (by rw [← hl' 3 (by decide)]; exact hl0)), l4 := (fun hl0 => I2.l4 (by rw [← hl' 4 (by decide)]; exact hl0)), l5 := (fun hl0 => I2.l5 (by rw [← hl' 5 (by decide)]; exact hl0)), l6 := (fun hl0 => I2.l6 (by rw [← hl' 6 (by decide)]; exact hl0)), l7 := (fun hl0 => I2.l7 (by rw [← hl' 7 (by decide)]; exact hl0)), l8 := (fun hl0 => I2.l8 (by rw [← hl' 8 (by decide)]; exact hl0)), l9 := (fun hl0 => I2.l9 (by rw [← hl' 9 (by decide)]; exact hl0)), l12 := (fun hl0 => I2.l12 (by rw [← hl' 12 (by decide)]; exact hl0)), l10 := (fun _ => ⟨rfl, I.b.size, heap_alloc_new _ _⟩), sep := (fun hl _ => .inr (I.l6 (by rw [← hl' 6 (by decide)]; exact hl)).2.2.2.1), l11 := (fun hl => (getD_no hun (I.d11 (by rw [← hl' 11 (by decide)]; exact hl))).elim), c7 := (fun hl => by rw [hl' 6 (by decide)]; exact I2.c7 (by rw [← hl' 7 (by decide)]; exact hl)), c8 := (fun hl => by rw [hl' 6 (by decide)]; exact I2.c8 (by rw [← hl' 8 (by decide)]; exact hl)), c11 := (fun hl => by rw [hl' 6 (by decide)]; exact I2.c11 (by rw [← hl' 11 (by decide)]; exact hl)), d11 := (fun _ => by simp [hsz]) }⟩
        | 11, ho =>
          obtain rfl := Option.some.inj ho
          have hd8 := hall ⟨8, .data⟩ (by simp) (by rfl)
          have hd10 := hall ⟨10, .data⟩ (by simp) (by rfl)
          have hg8 := I.l8 hd8
          obtain ⟨hx, hp, h3⟩ := I.l10 hd10
          have hd6 := I.c8 hd8
          have hs6 := I.sep hd6 hd10
          subst hg8 hx
          have k0 : w'.cell? ⟨p, 0, none⟩ = some v0 := by simp [World.cell?, h3]
          have k1 : w'.cell? ⟨p, 1, none⟩ = some v1 := by simp [World.cell?, h3]
          have k2 : w'.cell? ⟨p, 2, none⟩ = some v2 := by simp [World.cell?, h3]
          have f0 : w'.frozen? ⟨p, 0, none⟩ = false := by simp [World.frozen?, h3]
          have f1 : w'.frozen? ⟨p, 1, none⟩ = false := by simp [World.frozen?, h3]
          have f2 : w'.frozen? ⟨p, 2, none⟩ = false := by simp [World.frozen?, h3]
          have hne : ∀ q, q ≠ p → (((w'.setCell ⟨p, 0, none⟩ (.int .i64 r.ser)).setCell ⟨p, 1, none⟩ (.int .i64 r.at_)).setCell ⟨p, 2, none⟩ (.slice r.A r.es.length r.c)).heap[q]? = w'.heap[q]? := fun q hq => (Below.heap_setCell _ _ _ _ hq).trans ((Below.heap_setCell _ _ _ _ hq).trans (Below.heap_setCell _ _ _ _ hq))
          have hnew : (((w'.setCell ⟨p, 0, none⟩ (.int .i64 r.ser)).setCell ⟨p, 1, none⟩ (.int .i64 r.at_)).setCell ⟨p, 2, none⟩ (.slice r.A r.es.length r.c)).heap[p]? = some (.cells #[.int .i64 r.ser, .int .i64 r.at_, .slice r.A r.es.length r.c] 39 (0, 0)) := by simp [World.setCell, Array.getElem?_modify, h3]
          have hzz : (((w'.setCell ⟨p, 0, none⟩ (.int .i64 r.ser)).setCell ⟨p, 1, none⟩ (.int .i64 r.at_)).setCell ⟨p, 2, none⟩ (.slice r.A r.es.length r.c)).heap.size = w'.heap.size := by simp [World.setCell]
          refine skip_ (w1 := (((w'.setCell ⟨p, 0, none⟩ (.int .i64 r.ser)).setCell ⟨p, 1, none⟩ (.int .i64 r.at_)).setCell ⟨p, 2, none⟩ (.slice r.A r.es.length r.c))) (by rfl) rfl (by unfold snA RowD.arr; clear hl' hall hK I h3 hne hnew hzz; go_simp) ?_
          exact hK.out _ _ ⟨.pointer (some ⟨p, 0, none⟩), x7, x13, x14, x15, x16, x17, x18, x19, x20, .agg r.arr, x22, r, B1, B2, p, .int .i64 r.ser, .int .i64 r.at_, .slice r.A r.es.length r.c, rfl, { b := ((I.b.setCell hp _).setCell hp _).setCell hp _, l0 := (fun hl0 => I.l0 (by rw [← hl' 0 (by decide)]; exact hl0)), l1 := (fun hl0 => I.l1 (by rw [← hl' 1 (by decide)]; exact hl0)), l2 := (fun hl0 => I.l2 (by rw [← hl' 2 (by decide)]; exact hl0)), l3 := (fun hl0 => I.l3 (by rw [← hl' 3 (by decide)]; exact hl0)), l4 := (fun hl0 => I.l4 (by rw [← hl' 4 (by decide)]; exact hl0)), l5 := (fun hl0 => I.l5 (by rw [← hl' 5 (by decide)]; exact hl0)), l6 := (fun hl => by obtain ⟨k1, k2, k3, k4, k5⟩ := I.l6 (by rw [← hl' 6 (by decide)]; exact hl); exact ⟨k1, k2, k3, by rw [hzz]; exact k4, k5.keep (fun q h1 h2 => hne q (by omega))⟩), l7 := (fun hl0 => I.l7 (by rw [← hl' 7 (by decide)]; exact hl0)), l8 := (fun _ => rfl), l9 := (fun hl0 => I.l9 (by rw [← hl' 9 (by decide)]; exact hl0)), l12 := (fun hl0 => I.l12 (by rw [← hl' 12 (by decide)]; exact hl0)), l10 := (fun _ => ⟨rfl, hp, hnew⟩), sep := (fun hl0 hl1 => I.sep (by rw [← hl' 6 (by decide)]; exact hl0) (by rw [← hl' 10 (by decide)]; exact hl1)), l11 := (fun _ => rfl), c7 := (fun hl => by rw [hl' 6 (by decide)]; exact I.c7 (by rw [← hl' 7 (by decide)]; exact hl)), c8 := (fun hl => by rw [hl' 6 (by decide)]; exact I.c8 (by rw [← hl' 8 (by decide)]; exact hl)), c11 := (fun _ => by rw [hl' 6 (by decide)]; exact hd6), d11 := (fun _ => by rw [hl' 10 (by decide)]; exact hd10) }⟩
        | 12, ho =>
          obtain rfl := Option.some.inj ho
          have hg9 := I.l9 (hall ⟨9, .data⟩ (by simp) (by rfl))
          subst hg9
          refine value_ (v := .int .i64 er) (w1 := w') (by rfl) rfl (by unfold snA; clear hl' hall hK I; go_simp) ?_
          exact hK.out _ _ ⟨x6, .int .i64 er, x13, x14, x15, x16, x17, x18, x19, x20, x21, .int .i64 er, r, B1, B2, p, v0, v1, v2, rfl, { b := I.b, l0 := (fun hl0 => I.l0 (by rw [← hl' 0 (by decide)]; exact hl0)), l1 := (fun hl0 => I.l1 (by rw [← hl' 1 (by decide)]; exact hl0)), l2 := (fun hl0 => I.l2 (by rw [← hl' 2 (by decide)]; exact hl0)), l3 := (fun hl0 => I.l3 (by rw [← hl' 3 (by decide)]; exact hl0)), l4 := (fun hl0 => I.l4 (by rw [← hl' 4 (by decide)]; exact hl0)), l5 := (fun hl0 => I.l5 (by rw [← hl' 5 (by decide)]; exact hl0)), l6 := (fun hl0 => I.l6 (by rw [← hl' 6 (by decide)]; exact hl0)), l7 := (fun hl0 => I.l7 (by rw [← hl' 7 (by decide)]; exact hl0)), l8 := (fun hl0 => I.l8 (by rw [← hl' 8 (by decide)]; exact hl0)), l9 := (fun _ => rfl), l12 := (fun _ => rfl), l10 := (fun hl0 => I.l10 (by rw [← hl' 10 (by decide)]; exact hl0)), sep := (fun hl0 hl1 => I.sep (by rw [← hl' 6 (by decide)]; exact hl0) (by rw [← hl' 10 (by decide)]; exact hl1)), l11 := (fun hl0 => I.l11 (by rw [← hl' 11 (by decide)]; exact hl0)), c7 := (fun hl => by rw [hl' 6 (by decide)]; exact I.c7 (by rw [← hl' 7 (by decide)]; exact hl)), c8 := (fun hl => by rw [hl' 6 (by decide)]; exact I.c8 (by rw [← hl' 8 (by decide)]; exact hl)), c11 := (fun hl => by rw [hl' 6 (by decide)]; exact I.c11 (by rw [← hl' 11 (by decide)]; exact hl)), d11 := (fun hl => by rw [hl' 10 (by decide)]; exact I.d11 (by rw [← hl' 11 (by decide)]; exact hl)) }⟩
        | n + 13, ho => exact absurd ho (by simp)
      · rintro l' a w1 hall ⟨x6, x7, x13, x14, x15, x16, x17, x18, x19, x20, x21, x22, r, B1, B2, p, v0, v1, v2, rfl, I⟩
        obtain ⟨h20, hB1, hB12, hB2, hF⟩ := I.l6 (hall 6 (by omega))
        obtain ⟨h6, hp, hpr⟩ := I.l10 (hall 10 (by omega))
        have hsep := I.sep (hall 6 (by omega)) (hall 10 (by omega))
        have h7 := I.l12 (hall 12 (by omega))
        have h11 := I.l11 (hall 11 (by omega))
        have hB := I.b
        rw [h11] at hpr
        subst h6 h7
        clear I hall h11 h20
        simp only [Exit.then]
        apply_assumption
        unfold snA
      -- }REGION3
        have c0 : w1.cell? ⟨p, 0, none⟩ = some (.int .i64 r.ser) := by simp [World.cell?, hpr, RowD.arr]
        have c1 : w1.cell? ⟨p, 1, none⟩ = some (.int .i64 r.at_) := by simp [World.cell?, hpr, RowD.arr]
        have c2 : w1.cell? ⟨p, 2, none⟩ = some (.slice r.A r.es.length r.c) := by simp [World.cell?, hpr, RowD.arr]
        have hk1 : KpO own W w1 := hkp.trans (KpO.of_below hB)
        have hJ1 : J pre w1 := hJ _ _ _ hB hJp
        have hsuc : soundR s T (j + 1) = soundR s T j ++ okL j dd := by
          show soundR s T j ++ okL j (decP s j (pgsOf T j) 1).2 = _
          rw [hps, ← (unhide hd)]
        have hform := decP_form s j ps 1
        rw [← (unhide hd)] at hform
        cases dd with
        | none =>
          have her : er ≠ 0 := hform
          have hsuc2 : soundR s T (j + 1) = soundR s T j := by rw [hsuc]; exact List.append_nil _
          replace hsuc2 := hide hsuc2
          clear hsuc hform hdec hF hpr
          gi_wp2
          go_roundw
          case rel => exact ⟨j + 1, pre, by omega, by go_num, hide (by rw [unhide hsuc2]; exact unhide hpre), hJ1, hk1⟩
          case measure => simp [intOf]; omega
        | some q =>
          obtain ⟨her, hl1, hl2⟩ : er = 0 ∧ 0 < q.2.length ∧ q.2.length ≤ 1000 := hform
          subst her
          obtain ⟨f1, f2, f3⟩ : r.pl = (q.1, (j : Int), q.2) ∧ r.es.length ≤ r.c ∧ Sl w1 B1 B2 19 r.A (r.es.map Ent.arr) := hF
          have hes : r.es = q.2 := congrArg (fun x : RowP => x.2.2) f1
          have hM : SnM n₀ wr r w1 := ⟨by have := hbW.size; have := hkp.size; omega, hB, f2, by rw [hes]; exact hl2, by rw [hes]; exact hl1, (f3.more hB2).less hB1⟩
          have hsuc2 : soundR s T (j + 1) = (pre ++ [r]).map RowD.pl := by rw [hsuc, List.map_append, unhide hpre, List.map_singleton, f1]; rfl
          have hsp : (pre ++ [r]).map RowD.pl <+: soundR s T k := by rw [← hsuc2]; exact soundR_pre s T hjk
          have hlen : pre.length < k := by
            have h1 := soundR_len s T j
            rw [← unhide hpre, List.length_map] at h1
            omega
          obtain ⟨fn1, tmps, assign, body, hy, hR⟩ := hY pre r wr w1 hJp hJ1 hM hlen hsp
          replace hsuc2 := hide hsuc2
          replace hsp := hide hsp
          have hra : r.arr = #[.int .i64 r.ser, .int .i64 r.at_, .slice r.A r.es.length r.c] := rfl
          simp only [hra] at hy
          generalize r.es.length = rl at hy c2
          generalize r.ser = rs_ at hy c0
          generalize r.at_ = ra_ at hy c1
          generalize r.A = rA_ at hy c2
          generalize r.c = rc_ at hy c2
          clear hsuc hdec hpr hra f1 f2 f3 hes hM hl1 hl2 hlen
          gi_wp2
          refine hR.mono ?_
          rintro e W3 (⟨rfl, hJ3, hk3⟩ | ⟨rfl, hJx3⟩)
          · gi_wp2
            go_roundw
            case rel => exact ⟨j + 1, pre ++ [r], by omega, by go_num, hide (unhide hsuc2).symm, hJ3, hk1.trans hk3⟩
            case measure => simp [intOf]; omega
          · gi_wp2
            refine bodyPost_ret (results_none rfl _ _ _) rfl ?_
            exact ⟨⟨_, rfl⟩, .inr ⟨_, unhide hsp, hJx3⟩⟩
    · obtain rfl : j = k := by omega
      gi_wp2
      go_end0
      exact ⟨⟨_, rfl⟩, .inl ⟨_, unhide hpre, hJp⟩⟩
end Go.Proofs.Ytodbmgafejclmaa.Base
