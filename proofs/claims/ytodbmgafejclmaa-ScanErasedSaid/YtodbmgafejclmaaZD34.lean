/-
  Parts of a proof, laid together by a program of mine (pack.py): Lo.
-/
import Derived.Test.YtodbmgafejclmaaZD33
namespace Go.Proofs.Ytodbmgafejclmaa.Base
open Go.RowKit Go.Maps Go.Proofs.YtodbmgafejclmaaW.PrintWords Go.Proofs.YtodbmgafejclmaaW.PrintLast
set_option linter.unusedSimpArgs false
set_option linter.unusedVariables false
attribute [local go_sem] wide_fn' wide_depth' Oper.semAt_some
/-- append within a fence, whatever was shown of it -/
theorem appendIn_ {F : Fence} {n : Nat} {P : Program} {w : World} {ops : Array Oper} {rest : List Oper} {o : Oper} {a : Act} {Q : Exit → Act → World → Prop}
    (hg : o.guard = none) (s x : Operand) (t : TypeId) (hop : o.op = Op.call { callee := Callee.builtin Builtin.append, args := #[s, x], argTypes := #[t, t] }) (v' : Value) (w' : World)
    (hrun : (Builtin.append_ #[t, t] o.type #[a.eval s, a.eval x]).run P w = .ok v' w') (hK : wpListIn F n P ops Q rest (a.put o.dst v') w') : wpListIn F n P ops Q (o :: rest) a w := by
  refine wpListIn_plain hg fun K hK' => ?_
  unfold Oper.wpIn
  refine ⟨?_, ?_⟩
  · simp [Oper.about, hop, resolve, Target.leads, Sem.run_pure]
  · rw [Oper.semAt_plain F _ _ (by rw [hop]; intro c hc'; cases hc')]
    simp [execOp, hop, resolve, invoke, builtin, hrun, Result.andThen]
    exact hK' _ _ hK
theorem appendIn_x {F : Fence} {n : Nat} {P : Program} {w : World} {ops : Array Oper} {rest : List Oper} {o : Oper} {a : Act} {Q : Exit → Act → World → Prop}
    (hg : o.guard = none) (s x : Operand) (t : TypeId) (hop : o.op = Op.call { callee := Callee.builtin Builtin.append, args := #[s, x], argTypes := #[t, t] }) {X' : Sem Value} {W' : World} {v' : Value} {w' : World}
    (hrun : X'.run P W' = .ok v' w') (hX : Builtin.append_ #[t, t] o.type #[a.eval s, a.eval x] = X') (hW : w = W') (hK : wpListIn F n P ops Q rest (a.put o.dst v') w') : wpListIn F n P ops Q (o :: rest) a w := by
  subst hX hW
  exact appendIn_ hg s x t hop v' w' hrun hK
theorem Ow.mv {w w' : World} {base : Nat} {e : TypeId} {sz : Nat} {v : Value} {xs : List (Array Value)} (h : Ow w base e sz v xs) (hm : ∀ k, v.ownBlock = some k → w'.heap[k]? = w.heap[k]?) : Ow w' base e sz v xs := by
  refine ⟨h.1, ?_⟩
  rcases h.2 with h0 | ⟨g, cap, cur, rfl, h1, h2, h3⟩
  · exact .inl h0
  · exact .inr ⟨g, cap, cur, rfl, h1, (hm g rfl).trans h2, h3⟩
theorem Ow.tag {w : World} {base : Nat} {e : TypeId} {sz : Nat} {v : Value} {xs : List (Array Value)} (h : Ow w base e sz v xs) {g : Nat} (hg : v.ownBlock = some g) : ∃ cs, w.heap[g]? = some (.cells cs e (0, 0)) := by
  rcases h.2 with ⟨rfl, _⟩ | ⟨g', cap, cur, rfl, h1, h2, h3⟩
  · simp [Value.ownBlock] at hg
  · simp only [Value.ownBlock, Option.some.injEq] at hg
    subst hg
    exact ⟨_, h2⟩
abbrev noOwn : Nat → Prop := fun _ => False
theorem KpO.of_grow {W W' : World} {row : Option Nat} (hg : W.grownBy W' row) (hr : ∀ r, row = some r → ∃ o : Obj, W.heap[r]? = some o ∧ o.isCells = false) : KpO noOwn W W' :=
  ⟨hg.size, fun k o hk ho _ => (hg.block k (Array.getElem?_eq_some_iff.1 hk).1 (fun e => by
    obtain ⟨o2, h2, hc⟩ := hr k e.symm
    rw [hk] at h2
    cases h2
    rw [ho] at hc
    cases hc)).trans hk⟩
theorem RowOk.kpo {own : Nat → Prop} {w w' : World} {base : Nat} {t : RowD} (h : RowOk w base t) (hk : KpO own w w') (hn : ∀ k, k < w.heap.size → ¬ own k) : RowOk w' base t :=
  ⟨h.1, h.2.1, h.2.2.1, (h.2.2.2.kpo hk hn).more hk.size⟩
theorem Rn.kpo {w w' : World} {base : Nat} {v : Value} {T : List RowD} (h : Rn w base v T) (hk : KpO noOwn w w') : Rn w' base v T :=
  ⟨h.1.mv (fun k e => by obtain ⟨cs, hcs⟩ := h.1.tag e; exact (hk.same k _ hcs rfl (fun h => h)).trans hcs.symm), fun t ht => ⟨(h.2 t ht).1.kpo hk (fun _ _ h => h), (h.2 t ht).2⟩⟩
structure LkJ (w : World) (n₀ p6 : Nat) (pre : List RowD) (W : World) : Prop where
  b : Below w.heap.size w W
  z : n₀ ≤ W.heap.size
  h4 : W.heap[w.heap.size]? = some (.cells #[.int .i64 0, .slice none 0 0] 31 (0, 0))
  ex : ∃ (A' : Option Addr) (c' : Nat), W.heap[p6]? = some (.cells #[.int .i64 1, .slice A' pre.length c'] 31 (0, 0)) ∧ pre.length ≤ c' ∧ Rn W n₀ (.slice A' pre.length c') pre ∧ (pre = [] → A' = none ∧ c' = 0)
theorem LkJ.kpo {w : World} {n₀ p6 : Nat} {pre : List RowD} {W W' : World} (h : LkJ w n₀ p6 pre W) (hb : Below w.heap.size w W') (hk : KpO noOwn W W') : LkJ w n₀ p6 pre W' := by
  obtain ⟨A', c', h1, h2, h3, h4⟩ := h.ex
  exact ⟨hb, Nat.le_trans h.z hk.size, hk.same _ _ h.h4 rfl (fun h => h), A', c', hk.same _ _ h1 rfl (fun h => h), h2, h3.kpo hk, h4⟩
theorem LkJ.below {w : World} {n₀ p6 : Nat} {pre : List RowD} {W W' : World} (h : LkJ w n₀ p6 pre W) (hb : Below W.heap.size W W') : LkJ w n₀ p6 pre W' :=
  h.kpo (h.b.trans (hb.mono h.b.size)) (KpO.of_below hb)
theorem LkJ.grow {w : World} {n₀ p6 : Nat} {pre : List RowD} {W W' : World} {row : Option Nat} (h : LkJ w n₀ p6 pre W) (hg : W.grownBy W' row) (hr : ∀ r, row = some r → w.heap.size ≤ r ∧ ∃ o : Obj, W.heap[r]? = some o ∧ o.isCells = false) : LkJ w n₀ p6 pre W' :=
  h.kpo (below_grown h.b hg h.b.size (fun k e => (hr k e).1)) (KpO.of_grow hg (fun r e => (hr r e).2))
set_option maxRecDepth 100000 in
theorem cloner_nil (w : World) : Calls Try.prog 23 #[.slice none 0 0] w fun x w' => x = .returned (.slice none 0 0) ∧ Below w.heap.size w w' := by
  have hq : (binOp .eql 29 (.slice none 0 0) (.slice none 0 0)).run Try.prog w = .ok (.bool true) w := Lib.run_eql_slice_nil w _ _ none 0 0 0 0 Try.underlying29
  go_enter Try.func23, Try.ntmps23
  go_wp2
  go_ret
  exact ⟨rfl, Below.refl _ _⟩
theorem cloner_all (A : Option Addr) (c n : Nat) (T : List RowD) (w : World) (hn : n = T.length) (hnil : T = [] → A = none ∧ c = 0) (hc : n ≤ c) (hm : n ≤ 1000) (base : Nat) (hbase : base ≤ w.heap.size) (hs : Rn w base (.slice A n c) T) :
    Calls Try.prog 23 #[.slice A n c] w fun x w' => ∃ A' c', x = .returned (.slice A' n c') ∧ n ≤ c' ∧ Rn w' base (.slice A' n c') T ∧ Below w.heap.size w w' := by
  rcases Nat.eq_zero_or_pos n with h0 | h0
  · have hT : T = [] := List.eq_nil_of_length_eq_zero (by omega)
    obtain ⟨rfl, rfl⟩ := hnil hT
    subst h0 hT
    refine (cloner_nil w).mono ?_
    rintro x w' ⟨rfl, hb⟩
    exact ⟨none, 0, rfl, Nat.le_refl _, Rn.nil _ _, hb⟩
  · exact cloner_any A c n T w hn h0 hc hm base hbase hs
/-- what Look answers: a state, rows that lie in new blocks -/
def LookR (r : Int × List RowP) (w : World) (x : Ending) (w' : World) : Prop :=
  ∃ A' c' T', x = .returned (.agg #[.int .i64 r.1, .slice A' T'.length c']) ∧ T'.length ≤ c' ∧ T'.map RowD.pl = r.2 ∧ Rn w' w.heap.size (.slice A' T'.length c') T'
set_option maxRecDepth 100000 in
set_option maxHeartbeats 2000000 in
theorem look_any (s : Int) (A : Option Addr) (c n : Nat) (T : List PR) (w : World) (hn : n = T.length) (hsm : n ≤ 1000) (hc : n ≤ c) (hs : Sl w 0 w.heap.size 1 A (T.map PR.arr)) (hT : PrsAt w T) :
    Calls Try.prog 12 #[.int .i64 s, .slice A n c] w fun x w' => LookR (lookP s T) w x w' ∧ Below w.heap.size w w' := by
  refine (callsIn_wide (n := 0)).1 ?_
  refine callsIn_of_wp_marks Try.func12 rfl trivial ?_ rfl
  simp only [Try.ntmps12, List.size_toArray, List.length_cons, List.length_nil, Nat.reduceAdd, Nat.reduceSub, Array.replicate_succ, Array.replicate_zero, List.push_toArray, List.append_toArray, List.nil_append, List.cons_append]
  replace hn := hide hn
  gi_wp2_with fail
  have hla := fun W (hb : Below w.heap.size w W) => last_any A c n T W (unhide hn) (Nat.le_trans hsm (by decide)) ((hs.below hb).more hb.size) (hT.below hb)
  refine (callsIn_wide.2 (hla _ ((Below.refl _ _).alloc (Nat.le_refl _) _))).mono ?_
  rintro e w1 ⟨rfl, hb1⟩
  obtain ⟨e, he⟩ : ∃ e, e = lastS T := ⟨_, rfl⟩
  rw [← he]
  replace he := hide he
  clear hla
  replace hT := hide hT
  have f4 : w1.heap[w.heap.size]? = some (.cells #[.int .i64 0, .slice none 0 0] 31 (0, 0)) := (hb1.block _ (by simp)).trans (heap_alloc_new _ _)
  have hb0 : Below w.heap.size w w1 := ((Below.refl _ _).alloc (Nat.le_refl _) _).trans (hb1.mono (by simp))
  have c40 : w1.cell? ⟨w.heap.size, 0, none⟩ = some (.int .i64 0) := by simp [World.cell?, f4]
  have c41 : w1.cell? ⟨w.heap.size, 1, none⟩ = some (.slice none 0 0) := by simp [World.cell?, f4]
  have c4f : w1.frozen? ⟨w.heap.size, 0, none⟩ = false := by simp [World.frozen?, f4]
  have c4g : w1.frozen? ⟨w.heap.size, 1, none⟩ = false := by simp [World.frozen?, f4]
  have z1 : w.heap.size < w1.heap.size := (Array.getElem?_eq_some_iff.1 f4).1
  clear hb1
  replace f4 := hide f4
  replace hb0 := hide hb0
  by_cases hneg : e < 0
  · gi_wp2_with fail
    have hb2 : Below w.heap.size w ((w1.setCell ⟨w.heap.size, 0, none⟩ (.int .i64 0)).setCell ⟨w.heap.size, 1, none⟩ (.slice none 0 0)) := ((unhide hb0).setCell (Nat.le_refl _) _).setCell (Nat.le_refl _) _
    have f5 := heap_setCell_same _ _ 1 _ _ (.slice none 0 0) (heap_setCell_same _ _ 0 _ _ (.int .i64 0) (unhide f4))
    refine ⟨.agg #[.int .i64 0, .slice none 0 0], results_c rfl Try.underlying31 rfl (by kernel_rfl) rfl (rd_of_cells (by decide) (o := 0) (cs := #[.int .i64 0, .slice none 0 0]) (fun j hj => by match j, hj with | 0, _ => simp [World.cell?, f5] | 1, _ => simp [World.cell?, f5])), ⟨none, 0, [], ?_, Nat.le_refl _, ?_, Rn.nil _ _⟩, hb2⟩
    · simp [lookP, ← unhide he, hneg]
    · simp [lookP, ← unhide he, hneg]
  · have hk0 : -1 ≤ lastS T ∧ lastS T < T.length := lastN_lt _ _
    obtain ⟨k, rfl⟩ : ∃ k : Nat, e = (k : Int) := ⟨e.toNat, by omega⟩
    have hkT : k < T.length := by have := unhide he; omega
    gi_wp2_with fail
    refine (callsIn_wide.2 (sound_any s A n c k _)).mono ?_
    rintro e2 w2 ⟨rfl, rfl⟩
    gi_wp2_with fail
    obtain ⟨p6, hp6⟩ : ∃ p6, p6 = w1.heap.size := ⟨_, rfl⟩
    rw [← hp6]
    obtain ⟨W2, hW2⟩ : ∃ W2, (((w1.alloc (.cells #[.int .i64 1, .slice none 0 0] 31)).alloc (.cells #[.int .i64 s] 3)).alloc (.cells #[.slice A n c] 27)).alloc (.cells #[.int .i64 k] 3) = W2 := ⟨_, rfl⟩
    rw [hW2]
    have z2 : W2.heap.size = p6 + 4 := by rw [← hW2]; simp [hp6]
    have hb12 : Below w1.heap.size w1 W2 := by rw [← hW2]; exact ((((Below.refl _ _).alloc (Nat.le_refl _) _).alloc (by simp) _).alloc (by simp <;> omega) _).alloc (by simp <;> omega) _
    have f6 : W2.heap[p6]? = some (.cells #[.int .i64 1, .slice none 0 0] 31 (0, 0)) := by
      rw [← hW2, hp6]
      exact (Below.heap_alloc _ _ _ (by simp <;> omega)).trans ((Below.heap_alloc _ _ _ (by simp <;> omega)).trans ((Below.heap_alloc _ _ _ (by simp)).trans (heap_alloc_new _ _)))
    have fs : W2.heap[p6 + 1]? = some (.cells #[.int .i64 s] 3 (0, 0)) := by
      rw [← hW2, show p6 + 1 = (w1.alloc (.cells #[.int .i64 1, .slice none 0 0] 31)).heap.size from by simp [hp6]]
      exact (Below.heap_alloc _ _ _ (by simp <;> omega)).trans ((Below.heap_alloc _ _ _ (by simp)).trans (heap_alloc_new _ _))
    have fl : W2.heap[p6 + 2]? = some (.cells #[.slice A n c] 27 (0, 0)) := by
      rw [← hW2, show p6 + 2 = ((w1.alloc (.cells #[.int .i64 1, .slice none 0 0] 31)).alloc (.cells #[.int .i64 s] 3)).heap.size from by simp [hp6]]
      exact (Below.heap_alloc _ _ _ (by simp)).trans (heap_alloc_new _ _)
    have ft : W2.heap[p6 + 3]? = some (.cells #[.int .i64 k] 3 (0, 0)) := by
      rw [← hW2, show p6 + 3 = (((w1.alloc (.cells #[.int .i64 1, .slice none 0 0] 31)).alloc (.cells #[.int .i64 s] 3)).alloc (.cells #[.slice A n c] 27)).heap.size from by simp [hp6]]
      exact heap_alloc_new _ _
    have hb2 : Below w.heap.size w W2 := (unhide hb0).trans (hb12.mono (by omega))
    have hJ0 : LkJ w (p6 + 4) p6 [] W2 := ⟨hb2, by omega, (hb12.block _ z1).trans (unhide f4), none, 0, f6, Nat.le_refl _, Rn.nil _ _, fun _ => ⟨rfl, rfl⟩⟩
    have hwp : w.heap.size < p6 := by omega
    clear hW2 f6 hb12 f4 hb0 c40 c41 c4f c4g z1
    rw [unhide hn] at fl
    have hPw := hide hp6
    clear hp6
    replace z2 := hide z2
    have hIt := sound1_c (fun j => j = p6 ∨ p6 + 4 ≤ j) (p6 + 3) (p6 + 1) (p6 + 2) w.heap.size (p6 + 4) s A c k T (by omega) (by omega) (by omega) ⟨by omega, by omega, by omega⟩ (by omega) (by omega) (by have := unhide hn; omega) (by omega) W2 ft fs fl (hs.below hb2) w rfl (unhide hT) hb2 (by rw [unhide z2]; omega)
    clear ft fs fl
    refine range_m (gf := 32) rfl (fun _ _ => rfl) hIt
      (fun h k => h.trans k) (fun W l o o' hl h h2 _ => KpO.put h h2) (fun A B h => ⟨h.size, fun k o hk _ => (h.block k (Array.getElem?_eq_some_iff.1 hk).1).trans hk⟩) (Below.refl _ _) (fun _ => rfl)
      (fun pre W => LkJ w (p6 + 4) p6 pre W) (fun _ _ _ => False) ?_ ?_ ?_ ?_ hJ0 ?_ ?_ ?_
    · rintro pre X Y row h hg hr
      exact h.grow hg (fun r e => ⟨by have := (hr r e).1; rw [unhide z2] at this; omega, (hr r e).2⟩)
    · intro c s W W' row h; exact h.elim
    · rintro pre X Y hs h
      exact h.below hs
    · intro c pre A B _ h; exact h
    · rintro l pre x W0 W hI0 hI ⟨m1, m2, m3⟩ hlen hsp hsz
      obtain ⟨A', c', i1, i2, i3, i4⟩ := hI.ex
      obtain ⟨A0, c0, j1, j2, j3, _⟩ := hI0.ex
      have hob : ∀ b, (Value.slice A' pre.length c').ownBlock = some b → b < W0.heap.size := by
        have e1 := (m2.block p6 (by omega)).trans j1
        rw [i1] at e1
        injection e1 with e1
        injection e1 with e1
        have e2 : Value.slice A' pre.length c' = .slice A0 pre.length c0 := by simpa using e1
        rw [e2]
        exact fun b hb => (j3.1.lt b hb).2
      clear j1 j2 j3 hI0
      have hne : ∀ a, x.A = some a → some a.block ≠ (Value.slice A' pre.length c').ownBlock := fun a ha e => by
        obtain ⟨b, o, e1, e2, _⟩ := m3.lt
        rw [ha] at e1; injection e1 with e1; subst e1
        have := hob _ e.symm
        simp only at this
        omega
      have hxa : x.arr = #[.int .i64 x.ser, .int .i64 x.at_, .slice x.A x.es.length x.c] := rfl
      simp only [hxa]
      obtain ⟨rl, hrl⟩ : ∃ rl, rl = x.es.length := ⟨_, rfl⟩
      simp only [← hrl]
      obtain ⟨xs, hxs⟩ : ∃ xs, xs = x.ser := ⟨_, rfl⟩
      obtain ⟨xt, hxt⟩ : ∃ xt, xt = x.at_ := ⟨_, rfl⟩
      obtain ⟨xA, hxA⟩ : ∃ xA, xA = x.A := ⟨_, rfl⟩
      obtain ⟨xc, hxc⟩ : ∃ xc, xc = x.c := ⟨_, rfl⟩
      simp only [← hxs, ← hxt, ← hxA, ← hxc] at hxa ⊢
      rw [← hrl] at hxa
      replace hrl := hide hrl; replace hxs := hide hxs; replace hxt := hide hxt; replace hxA := hide hxA; replace hxc := hide hxc
      replace hxa := hide hxa
      gi_wp2_with fail
      have hWl := (Below.refl W.heap.size W).alloc (Nat.le_refl _) (.cells #[.int .i64 xs, .int .i64 xt, .slice xA rl xc] 39)
      refine ⟨KeepsOthers.alloc _ _, KpO.of_below hWl, fun X' => Below w.heap.size w X' ∧ KpO noOwn (W.alloc (.cells #[.int .i64 xs, .int .i64 xt, .slice xA rl xc] 39)) X', ?_, ⟨hI.b.trans (hWl.mono hI.b.size), KpO.refl _ _⟩, ?_⟩
      · rintro Y Z row ⟨h1, h2⟩ hg hr
        exact ⟨below_grown h1 hg h1.size (fun k e => by have := (hr k e).1; rw [unhide z2] at this; omega), h2.trans (KpO.of_grow hg (fun r e => (hr r e).2))⟩
      rintro W₂ ⟨hbW2, hk2⟩ hz2
      have hk3 : KpO noOwn W W₂ := (KpO.of_below hWl).trans hk2
      have hX2 : W₂.heap[W.heap.size]? = some (.cells #[.int .i64 xs, .int .i64 xt, .slice xA rl xc] 39 (0, 0)) := hk2.same _ _ (heap_alloc_new _ _) rfl (fun h => h)
      have q1 := hk3.same _ _ i1 rfl (fun h => h)
      have q3 := i3.kpo hk3
      have hx2 := m3.kpo hk3 (fun _ _ h => h)
      have q4 := hk3.same _ _ hI.h4 rfl (fun h => h)
      have hzW : p6 + 4 ≤ W₂.heap.size := by have := hI.z; have := hk3.size; omega
      have d0 : W₂.cell? ⟨W.heap.size, 0, none⟩ = some (.int .i64 xs) := by simp [World.cell?, hX2]
      have d1 : W₂.cell? ⟨W.heap.size, 1, none⟩ = some (.int .i64 xt) := by simp [World.cell?, hX2]
      have d2 : W₂.cell? ⟨W.heap.size, 2, none⟩ = some (.slice xA rl xc) := by simp [World.cell?, hX2]
      have e1 : W₂.cell? ⟨p6, 1, none⟩ = some (.slice A' pre.length c') := by simp [World.cell?, q1]
      have hbA := (Below.refl W₂.heap.size W₂).alloc (Nat.le_refl _) (.cells #[.int .i64 xs, .int .i64 xt, .slice xA rl xc] 39)
      have hnew : (W₂.alloc (.cells #[.int .i64 xs, .int .i64 xt, .slice xA rl xc] 39)).heap[W₂.heap.size]? = some (.cells x.arr 39 (0, 0)) := by rw [unhide hxa]; exact heap_alloc_new _ _
      have hprl : pre.length ≤ 1000 := by have := unhide hn; omega
      obtain ⟨A5, c5, w5, hrun, ho5, hg5, hc5⟩ := Rn.app (W₂.alloc (.cells #[.int .i64 xs, .int .i64 xt, .slice xA rl xc] 39)) (p6 + 4) pre.length _ pre (q3.below hbA) rfl [x] 1 rfl ⟨W₂.heap.size, 0, none⟩ 1 (Rn.one hnew)
        (fun t ht => by rw [List.mem_singleton.1 ht]; exact ⟨(hx2.below hbA).less (by omega), hne⟩) (by omega) (by simp; omega) 29
      have hlo : ∀ k, (Value.slice A' pre.length c').ownBlock = some k → p6 + 4 ≤ k := fun k e => (q3.1.lt k e).1
      have r1 : w5.heap[p6]? = some (.cells #[.int .i64 1, .slice A' pre.length c'] 31 (0, 0)) := (hg5.block _ (by simp; omega) (fun e => by have := hlo _ e.symm; omega)).trans ((Below.heap_alloc _ _ _ (by omega)).trans q1)
      have r4 : w5.heap[w.heap.size]? = some (.cells #[.int .i64 0, .slice none 0 0] 31 (0, 0)) := (hg5.block _ (by simp; omega) (fun e => by have := hlo _ e.symm; omega)).trans ((Below.heap_alloc _ _ _ (by omega)).trans q4)
      have g1 : w5.cell? ⟨p6, 1, none⟩ = some (.slice A' pre.length c') := by simp [World.cell?, r1]
      have g1f : w5.frozen? ⟨p6, 1, none⟩ = false := by simp [World.frozen?, r1]
      have hset := heap_setCell_same _ _ 1 _ _ (.slice A5 (pre.length + 1) c5) r1
      have hb5 : Below w.heap.size w w5 := below_grown (hbW2.alloc (by omega) _) hg5 (by simp; omega) (fun k e => by have := hlo k e; omega)
      have hko : KeepsOthers W₂ (w5.setCell ⟨p6, 1, none⟩ (.slice A5 (pre.length + 1) c5)) := by
        refine ((KeepsOthers.alloc W₂ _).trans (KeepsOthers.of_grownBy hg5 (fun j o e ho => ?_))).trans (KeepsOthers.setCell _ _ _)
        obtain ⟨cs, hcs⟩ := (q3.1.alloc (.cells #[.int .i64 xs, .int .i64 xt, .slice xA rl xc] 39)).tag e
        rw [hcs] at ho
        cases ho
        rfl
      have hkq : KpO (fun j => j = p6 ∨ p6 + 4 ≤ j) W₂ (w5.setCell ⟨p6, 1, none⟩ (.slice A5 (pre.length + 1) c5)) := by
        refine ⟨by have := hg5.size; simp [World.setCell] at this ⊢; omega, fun k o hk ho hn => ?_⟩
        have hkl := (Array.getElem?_eq_some_iff.1 hk).1
        refine (Below.heap_setCell _ _ _ _ (fun e => hn (.inl e))).trans ((hg5.block k (by simp; omega) (fun e => hn (.inr (hlo k e.symm)))).trans ((Below.heap_alloc _ _ _ hkl).trans hk))
      have hfin : LkJ w (p6 + 4) p6 (pre ++ [x]) (w5.setCell ⟨p6, 1, none⟩ (.slice A5 (pre.length + 1) c5)) := by
        refine ⟨hb5.setCell (by show w.heap.size ≤ p6; omega) _, by have := hg5.size; simp [World.setCell] at this ⊢; omega, (Below.heap_setCell _ _ _ _ (by show w.heap.size ≠ p6; omega)).trans r4, A5, c5, ?_, by rw [List.length_append]; exact hc5, ?_, fun h => absurd h (by simp)⟩
        · rw [List.length_append]; exact hset
        · rw [List.length_append]; exact ho5.setCell (by show p6 < p6 + 4; omega) _
      clear i4 hg5 hnew hbA hx2 q3 q4 r1 r4 hset hX2 q1 i1 i3 m2 m3 hlo
      replace hz2 := hide hz2
      generalize pre.length = pl at *
      gi_wp2_with (refine appendIn_x (by rfl) (.tmp 22) (.tmp 24) 29 (by rfl) hrun ?_ ?_ ?_)
      all_goals first | rfl | exact ⟨hko, hkq, hfin⟩
    · rintro D xs W hDl hxs hI hD
      clear hIt
      obtain ⟨A', c', i1, i2, i3, i4⟩ := hI.ex
      have hDW : D < W.heap.size := (Array.getElem?_eq_some_iff.1 hD).1
      have hxl : xs.length ≤ 1000 := by
        have h1 := soundR_len s T k
        rw [← hxs, List.length_map] at h1
        have := unhide hn
        omega
      have hzW := hI.z
      have hbW := hI.b
      have q4 := hI.h4
      obtain ⟨xl, hxl'⟩ : ∃ xl, xl = xs.length := ⟨_, rfl⟩
      rw [← hxl'] at i1 i2 i3 hxl
      have hcl := cloner_all A' c' xl xs W hxl' i4 i2 hxl (p6 + 4) hzW i3
      have d1 : W.cell? ⟨p6, 1, none⟩ = some (.slice A' xl c') := by simp [World.cell?, i1]
      replace hxs := hide hxs
      replace hxl' := hide hxl'
      replace hD := hide hD
      replace z2 := hide z2
      clear hI i4 hJ0
      gi_wp2_with fail
      refine (callsIn_wide.2 hcl).mono ?_
      rintro e8 w8 ⟨A8, c8, rfl, k1, k2, k3⟩
      have l1 := (k3.block p6 (by omega)).trans i1
      have l4 := (k3.block w.heap.size (by omega)).trans q4
      have lD := (k3.block D hDW).trans (unhide hD)
      have d8 : w8.cell? ⟨p6, 1, none⟩ = some (.slice A' xl c') := by simp [World.cell?, l1]
      have d8f : w8.frozen? ⟨p6, 1, none⟩ = false := by simp [World.frozen?, l1]
      have l2 := heap_setCell_same _ _ 1 _ _ (.slice A8 xl c8) l1
      have n4 := (Below.heap_setCell w8 ⟨p6, 1, none⟩ (.slice A8 xl c8) _ (by show w.heap.size ≠ p6; omega)).trans l4
      have nD : (w8.setCell ⟨p6, 1, none⟩ (.slice A8 xl c8)).heap[D]? = some (Obj.deferred (some [])) := (Below.heap_setCell w8 ⟨p6, 1, none⟩ (.slice A8 xl c8) _ (by show D ≠ p6; have := unhide (unhide z2); omega)).trans lD
      have nR := k2.setCell (p := ⟨p6, 1, none⟩) (by show p6 < p6 + 4; omega) (.slice A8 xl c8)
      have nb8 := hbW.trans (k3.mono hbW.size)
      have nb := nb8.setCell (p := ⟨p6, 1, none⟩) (by show w.heap.size ≤ p6; omega) (.slice A8 xl c8)
      clear hcl i1 i3 q4 l1 l4 lD k2 k3 d1 hD
      obtain ⟨W9, hW9⟩ : ∃ W9, W9 = w8.setCell ⟨p6, 1, none⟩ (.slice A8 xl c8) := ⟨_, rfl⟩
      rw [← hW9] at l2 n4 nD nR nb
      obtain ⟨m, hm⟩ : ∃ m : Nat, (n : Int) - 1 = (m : Int) := ⟨n - 1, by have := unhide hn; omega⟩
      have hmT : m < T.length := by have := unhide hn; omega
      have hmn : (m : Int) < n := by omega
      have hm0 : (0 : Int) ≤ m := by omega
      obtain ⟨b, o, rfl, _, hbl, hr⟩ := hs.at_ (k := m) (by simpa using hmT)
      simp only [List.getElem_map] at hr
      have hpr : PrOk W9 T[m] := (unhide hT _ (List.getElem_mem hmT)).below nb
      have hps : pgsOf T m = (T[m]).2.2 := by unfold pgsOf; rw [List.getD_eq_getElem?_getD, List.getElem?_eq_getElem hmT]; rfl
      obtain ⟨⟨A0, c0, ps⟩, hrT⟩ : ∃ r, r = T[m] := ⟨_, rfl⟩
      rw [← hrT] at hr hpr hps
      obtain ⟨nn, hnn⟩ : ∃ nn, nn = ps.length := ⟨_, rfl⟩
      have e0 : W9.cell? ⟨b, o + m, none⟩ = some (.slice A0 nn c0) := by
        rw [hnn]
        have := rd_cell ((rd_below nb hbl _ _).trans hr) 0 (by omega)
        rw [Nat.mul_one, Nat.add_zero] at this
        exact this
      have e8 : w8.cell? ⟨b, o + m, none⟩ = some (.slice A0 nn c0) := by
        rw [hnn]
        have := rd_cell ((rd_below nb8 hbl _ _).trans hr) 0 (by omega)
        rw [Nat.mul_one, Nat.add_zero] at this
        exact this
      have hdec := decode_all s m 1 A0 c0 nn ps W9 hnn hpr.2.2.1 (by rw [hnn]; exact hpr.1) hpr.2.2.2.1 hpr.2.2.2.2
      have hlk : lookP s T = (if (decP s m ps 1).1 = 0 then 2 else 1, xs.map RowD.pl) := by
        have h1 := unhide he
        have h2 : (T.length : Int) - 1 = m := by have := unhide hn; omega
        have h3 : T.length - 1 = m := by omega
        unfold lookP
        rw [h2, h3, hps, ← h1, unhide hxs, Int.toNat_natCast, if_neg (by omega)]
      obtain ⟨⟨er, dd⟩, hd⟩ : ∃ r, r = decP s m ps 1 := ⟨_, rfl⟩
      rw [← hd] at hdec hlk
      simp only at hlk
      have hdec2 : Calls Try.prog 24 #[.int .i64 s, .int .i64 m, .slice A0 nn c0, .int .i64 1] W9 fun x w'' => (∃ (r0 r1 : Int) (A1 : Option Addr) (n1 c1 : Nat), x = .returned (.tuple #[.agg #[.int .i64 r0, .int .i64 r1, .slice A1 n1 c1], .int .i64 er])) ∧ Below W9.heap.size W9 w'' := by
        refine hdec.mono ?_
        rintro x w'' ⟨hx, hb''⟩
        refine ⟨?_, hb''⟩
        cases dd with
        | none => exact ⟨0, 0, none, 0, 0, hx⟩
        | some q =>
          obtain ⟨A', c', h1, h2, h3⟩ := hx
          exact ⟨q.1, m, A', q.2.length, c', h1⟩
      clear hdec hr hpr hps hrT hs hk0 hxs he hd hmT
      replace hnn := hide hnn
      replace hlk := hide hlk
      replace l2 := hide l2; replace n4 := hide n4; replace nD := hide nD; replace nR := hide nR; replace nb := hide nb
      subst hW9
      gi_wp2_with fail
      refine (callsIn_wide.2 hdec2).mono ?_
      rintro y w9 ⟨⟨r0, r1, A1, n1, c1, rfl⟩, hb9⟩
      have o2 := (hb9.block p6 (Array.getElem?_eq_some_iff.1 (unhide l2)).1).trans (unhide l2)
      have o4 := (hb9.block _ (Array.getElem?_eq_some_iff.1 (unhide n4)).1).trans (unhide n4)
      have oD := (hb9.block _ (Array.getElem?_eq_some_iff.1 (unhide nD)).1).trans (unhide nD)
      have oR := (unhide nR).below hb9
      have ob := (unhide nb).trans (hb9.mono (unhide nb).size)
      have u60 : w9.cell? ⟨p6, 0, none⟩ = some (.int .i64 1) := by simp [World.cell?, o2]
      have u61 : w9.cell? ⟨p6, 1, none⟩ = some (.slice A8 xl c8) := by simp [World.cell?, o2]
      have u6f : w9.frozen? ⟨p6, 0, none⟩ = false := by simp [World.frozen?, o2]
      have u40 : w9.cell? ⟨w.heap.size, 0, none⟩ = some (.int .i64 0) := by simp [World.cell?, o4]
      have u41 : w9.cell? ⟨w.heap.size, 1, none⟩ = some (.slice none 0 0) := by simp [World.cell?, o4]
      have u4f : w9.frozen? ⟨w.heap.size, 0, none⟩ = false := by simp [World.frozen?, o4]
      have u4g : w9.frozen? ⟨w.heap.size, 1, none⟩ = false := by simp [World.frozen?, o4]
      have hz9 : w.heap.size < w9.heap.size := (Array.getElem?_eq_some_iff.1 o4).1
      have hz6 : p6 < w9.heap.size := (Array.getElem?_eq_some_iff.1 o2).1
      have hzD : D < w9.heap.size := (Array.getElem?_eq_some_iff.1 oD).1
      have h64 : w.heap.size ≠ p6 := by omega
      have h46 : p6 ≠ w.heap.size := by omega
      have hD6 : D ≠ p6 := by have := unhide (unhide z2); omega
      have hD4 : D ≠ w.heap.size := by have := unhide (unhide z2); omega
      have fin : ∀ (W : World) (st : Int), Below w.heap.size w W → Rn W (p6 + 4) (.slice A8 xl c8) xs → W.heap[w.heap.size]? = some (.cells #[.int .i64 st, .slice A8 xl c8] 31 (0, 0)) → st = (lookP s T).1 → LookR (lookP s T) w (.returned (.agg #[.int .i64 st, .slice A8 xl c8])) W ∧ Below w.heap.size w W := by
        rintro W st hb hR hc rfl
        refine ⟨⟨A8, c8, xs, ?_, ?_, ?_, ?_⟩, hb⟩
        · rw [← unhide hxl']
        · rw [← unhide hxl']; exact k1
        · rw [unhide hlk]
        · rw [← unhide hxl']; exact ⟨hR.1.less (by omega), fun t ht => ⟨(hR.2 t ht).1.less (by omega), (hR.2 t ht).2⟩⟩
      have hl0 := congrArg Prod.fst (unhide hlk)
      simp only at hl0
      clear l2 n4 nD nR nb hdec2 hlk
      replace o2 := hide o2; replace o4 := hide o4; replace oD := hide oD; replace oR := hide oR; replace ob := hide ob
      replace fin := hide fin
      have hDw : w.heap.size ≤ D := by have := unhide (unhide z2); omega
      have done : ∀ (V : World) (st : Int) (tm : Array Value), tm.getD 4 undef = .pointer (some ⟨w.heap.size, 0, none⟩) → Below w.heap.size w V → Rn V (p6 + 4) (.slice A8 xl c8) xs → V.heap[w.heap.size]? = some (.cells #[.int .i64 st, .slice A8 xl c8] 31 (0, 0)) → V.heap[D]? = some (Obj.deferred (some [])) → st = (lookP s T).1 →
          bodyPostM Fence.wide 0 Try.prog Try.f12 (fun x w' => LookR (lookP s T) w x w' ∧ Below w.heap.size w w') Exit.ret { tmps := tm, defers := [{ target := Target.collected D, args := #[] }] } V := by
        intro V st tm htm hb hR hc hD hst
        have hg := grownBy_putObj' V D (.deferred none)
        have hk := KpO.of_grow hg (fun r e => by cases e; exact ⟨_, hD, rfl⟩)
        have hc' := hk.same _ _ hc rfl (fun h => h)
        refine ⟨by simp, .inl ⟨_, _, rfl, run_takeDeferred hD, ?_⟩⟩
        exact ⟨.agg #[.int .i64 st, .slice A8 xl c8], results_c rfl Try.underlying31 rfl (by kernel_rfl) htm (rd_of_cells (by simp) (o := 0) (cs := #[.int .i64 st, .slice A8 xl c8]) (fun j hj => by match j, hj with | 0, _ => simp [World.cell?, hc'] | 1, _ => simp [World.cell?, hc'])),
          (unhide fin) _ st (below_grown hb hg hb.size (fun k e => by cases e; exact hDw)) (hR.kpo hk) hc' hst⟩
      replace done := hide done
      by_cases her : er = 0
      · rw [if_pos her] at hl0
        replace hl0 := hide hl0
        subst her
        gi_wp2_with fail
        refine (unhide done) _ 2 _ rfl ?_ ?_ ?_ ?_ (unhide hl0).symm
        · exact ((((unhide ob).setCell (by show w.heap.size ≤ p6; omega) _).setCell (Nat.le_refl _) _).setCell (Nat.le_refl _) _).alloc (by simp [World.setCell]; omega) _
        · exact ((((unhide oR).setCell (p := ⟨p6, 0, none⟩) (by show p6 < p6 + 4; omega) _).setCell (p := ⟨w.heap.size, 0, none⟩) (by show w.heap.size < p6 + 4; omega) _).setCell (p := ⟨w.heap.size, 1, none⟩) (by show w.heap.size < p6 + 4; omega) _).below ((Below.refl _ _).alloc (Nat.le_refl _) _)
        · refine (Below.heap_alloc _ _ _ (by simp [World.setCell]; omega)).trans ?_
          exact heap_setCell_same _ _ 1 _ _ _ (heap_setCell_same _ _ 0 _ _ _ ((Below.heap_setCell _ _ _ _ (by show w.heap.size ≠ p6; exact h64)).trans (unhide o4)))
        · refine (Below.heap_alloc _ _ _ (by simp [World.setCell]; omega)).trans ?_
          exact (Below.heap_setCell _ _ _ _ hD4).trans ((Below.heap_setCell _ _ _ _ hD4).trans ((Below.heap_setCell _ _ _ _ hD6).trans (unhide oD)))
      · rw [if_neg her] at hl0
        replace hl0 := hide hl0
        gi_wp2_with fail
        refine (unhide done) _ 1 _ rfl ?_ ?_ ?_ ?_ (unhide hl0).symm
        · exact (((unhide ob).setCell (Nat.le_refl _) _).setCell (Nat.le_refl _) _).alloc (by simp [World.setCell]; omega) _
        · exact (((unhide oR).setCell (p := ⟨w.heap.size, 0, none⟩) (by show w.heap.size < p6 + 4; omega) _).setCell (p := ⟨w.heap.size, 1, none⟩) (by show w.heap.size < p6 + 4; omega) _).below ((Below.refl _ _).alloc (Nat.le_refl _) _)
        · refine (Below.heap_alloc _ _ _ (by simp [World.setCell]; omega)).trans ?_
          exact heap_setCell_same _ _ 1 _ _ _ (heap_setCell_same _ _ 0 _ _ _ (unhide o4))
        · refine (Below.heap_alloc _ _ _ (by simp [World.setCell]; omega)).trans ?_
          exact (Below.heap_setCell _ _ _ _ hD4).trans ((Below.heap_setCell _ _ _ _ hD4).trans (unhide oD))
    · rintro D c pre W hDl hsp h hD
      exact h.elim
end Go.Proofs.Ytodbmgafejclmaa.Base
