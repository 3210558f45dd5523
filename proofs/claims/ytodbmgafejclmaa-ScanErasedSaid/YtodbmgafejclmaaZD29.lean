/-
  Parts of a proof, laid together by a program of mine (pack.py): Ld.
-/
import Derived.Test.YtodbmgafejclmaaZD28
namespace Go.Proofs.Ytodbmgafejclmaa.Base
open Go.RowKit Go.Maps Go.Proofs.YtodbmgafejclmaaW.PrintWords Go.Proofs.YtodbmgafejclmaaW.PrintLast
set_option linter.unusedSimpArgs false
set_option linter.unusedVariables false
attribute [local go_sem] wide_fn' wide_depth' Oper.semAt_some
theorem lastN_back (f : Nat → Bool) (n : Nat) : ∀ k, k ≤ n → (∀ j, j < k → f (n - 1 - j) = false) → lastN f n = lastN f (n - k)
  | 0, _, _ => rfl
  | k + 1, hk, h => by
    rw [lastN_back f n k (by omega) (fun j hj => h j (by omega))]
    have h1 := h k (by omega)
    obtain ⟨m, hm⟩ : ∃ m, n - k = m + 1 := ⟨n - k - 1, by omega⟩
    rw [hm, show n - (k + 1) = m from by omega]
    rw [show n - 1 - k = m from by omega] at h1
    simp [lastN, h1]
theorem backL_at {T : List PR} {pre : List (Int × PR)} {x : Int × PR} (h : pre ++ [x] <+: backL T T.length) :
    pre.length < T.length ∧ x = (((T.length - 1 - pre.length : Nat) : Int), T.getD (T.length - 1 - pre.length) zPR) ∧ pre = backL T pre.length := by
  have h1 := h.length_le
  rw [backL_len, List.length_append, List.length_singleton] at h1
  have h2 := backL_of h
  rw [List.length_append, List.length_singleton, backL_succ] at h2
  have h3 := List.append_inj' h2 rfl
  exact ⟨by omega, by simpa using h3.2, h3.1⟩
theorem lastS_none {T : List PR} (h : ∀ x ∈ backL T T.length, stB x.2.2.2 = false) : lastS T = -1 := by
  unfold lastS
  rw [lastN_back _ _ T.length (Nat.le_refl _) (fun j hj => h (((T.length - 1 - j : Nat) : Int), T.getD (T.length - 1 - j) zPR) (by unfold backL; exact List.mem_map.2 ⟨j, List.mem_range.2 hj, rfl⟩)), Nat.sub_self]
  rfl
theorem lastS_some {T : List PR} {k : Nat} (hk : k < T.length) (h : ∀ x ∈ backL T k, stB x.2.2.2 = false) (hy : stB (T.getD (T.length - 1 - k) zPR).2.2 = true) : lastS T = ((T.length - 1 - k : Nat) : Int) := by
  unfold lastS
  rw [lastN_back _ _ k (by omega) (fun j hj => h (((T.length - 1 - j : Nat) : Int), T.getD (T.length - 1 - j) zPR) (by unfold backL; exact List.mem_map.2 ⟨j, List.mem_range.2 hj, rfl⟩))]
  obtain ⟨m, hm⟩ : ∃ m, T.length - k = m + 1 := ⟨T.length - k - 1, by omega⟩
  rw [show T.length - 1 - k = m from by omega] at hy ⊢
  rw [hm]
  exact if_pos hy
structure LaJ (w : World) (P : Nat) (pre : List (Int × PR)) (W : World) : Prop where
  b : Below w.heap.size w W
  h3 : W.heap[P]? = some (.cells #[.func (.func 21) #[] #[]] 58 (0, 0))
  h4 : W.heap[P + 1]? = some (.cells #[.int .i64 0] 3 (0, 0))
  no : ∀ x ∈ pre, stB x.2.2.2 = false
theorem LaJ.keep {w : World} {P : Nat} {pre : List (Int × PR)} {W W' : World} (h : LaJ w P pre W) (hb : Below w.heap.size w W')
    (hk : ∀ (k : Nat) (cs : Array Value) (t : TypeId), W.heap[k]? = some (.cells cs t (0, 0)) → W'.heap[k]? = some (.cells cs t (0, 0))) : LaJ w P pre W' :=
  ⟨hb, hk _ _ _ h.h3, hk _ _ _ h.h4, h.no⟩
theorem LaJ.below {w : World} {P : Nat} {pre : List (Int × PR)} {W W' : World} (h : LaJ w P pre W) (hb : Below W.heap.size W W') : LaJ w P pre W' :=
  h.keep (h.b.trans (hb.mono h.b.size)) (fun k cs t hk => (hb.block k (Array.getElem?_eq_some_iff.1 hk).1).trans hk)
theorem grown_cells {W W' : World} {row : Option Nat} (hg : W.grownBy W' row) (hr : ∀ r, row = some r → ∃ o : Obj, W.heap[r]? = some o ∧ o.isCells = false) (k : Nat) (cs : Array Value) (t : TypeId) (hk : W.heap[k]? = some (.cells cs t (0, 0))) : W'.heap[k]? = some (.cells cs t (0, 0)) := by
  refine (hg.block k (Array.getElem?_eq_some_iff.1 hk).1 (fun e => ?_)).trans hk
  obtain ⟨o, ho, hc⟩ := hr k e.symm
  rw [hk] at ho
  cases ho
  simp [Obj.isCells] at hc
theorem LaJ.grow {w : World} {P : Nat} {pre : List (Int × PR)} {W W' : World} {row : Option Nat} (h : LaJ w P pre W) (hg : W.grownBy W' row) (hr : ∀ r, row = some r → w.heap.size ≤ r ∧ ∃ o : Obj, W.heap[r]? = some o ∧ o.isCells = false) : LaJ w P pre W' :=
  h.keep (below_grown h.b hg h.b.size (fun k e => (hr k e).1)) (grown_cells hg (fun r e => (hr r e).2))
/-- what stands when it is told -/
structure LaX (w : World) (P : Nat) (i : Int) (W : World) : Prop where
  b : Below w.heap.size w W
  h4 : W.heap[P + 1]? = some (.cells #[.int .i64 i] 3 (0, 0))
theorem LaX.grow {w : World} {P : Nat} {i : Int} {W W' : World} {row : Option Nat} (h : LaX w P i W) (hg : W.grownBy W' row) (hr : ∀ r, row = some r → w.heap.size ≤ r ∧ ∃ o : Obj, W.heap[r]? = some o ∧ o.isCells = false) : LaX w P i W' :=
  ⟨below_grown h.b hg h.b.size (fun k e => (hr k e).1), grown_cells hg (fun r e => (hr r e).2) _ _ _ h.h4⟩
theorem LaX.below {w : World} {P : Nat} {i : Int} {W W' : World} (h : LaX w P i W) (hb : Below W.heap.size W W') : LaX w P i W' :=
  ⟨h.b.trans (hb.mono h.b.size), (hb.block _ (Array.getElem?_eq_some_iff.1 h.h4).1).trans h.h4⟩
set_option maxRecDepth 100000 in
set_option maxHeartbeats 2000000 in
theorem last_any (A : Option Addr) (c n : Nat) (T : List PR) (w : World) (hn : n = T.length) (hsm : n ≤ 100000) (hs : Sl w 0 w.heap.size 1 A (T.map PR.arr)) (hT : PrsAt w T) :
    Calls Try.prog 20 #[.slice A n c, .func (.func 21) #[] #[]] w fun x w' => x = .returned (.int .i64 (lastS T)) ∧ Below w.heap.size w w' := by
  subst hn
  refine (callsIn_wide (n := 0)).1 ?_
  refine callsIn_of_wp_marks Try.func20 rfl trivial ?_ rfl
  simp only [Try.ntmps20, List.size_toArray, List.length_cons, List.length_nil, Nat.reduceAdd, Nat.reduceSub, Array.replicate_succ, Array.replicate_zero, List.push_toArray, List.append_toArray, List.nil_append, List.cons_append]
  gi_wp2_with fail
  refine (callsIn_wide.2 (backward_any A T.length c _)).mono ?_
  rintro e w2 ⟨rfl, rfl⟩
  gi_wp2_with fail
  obtain ⟨W2, hW2⟩ : ∃ W2, ((w.alloc (Obj.cells #[.func (.func 21) #[] #[]] 58)).alloc (Obj.cells #[.int .i64 0] 3)).alloc (Obj.cells #[.slice A T.length c] 27) = W2 := ⟨_, rfl⟩
  rw [hW2]
  obtain ⟨P, hP⟩ : ∃ P, P = w.heap.size := ⟨_, rfl⟩
  have z2 : W2.heap.size = P + 3 := by rw [← hW2, hP]; simp
  have hb2 : Below w.heap.size w W2 := by rw [← hW2]; exact (((Below.refl _ _).alloc (Nat.le_refl _) _).alloc (by simp) _).alloc (by simp; omega) _
  have f3 : W2.heap[P]? = some (.cells #[.func (.func 21) #[] #[]] 58 (0, 0)) := by
    rw [← hW2, hP]; exact (Below.heap_alloc _ _ _ (by simp; omega)).trans ((Below.heap_alloc _ _ _ (by simp)).trans (heap_alloc_new _ _))
  have f4 : W2.heap[P + 1]? = some (.cells #[.int .i64 0] 3 (0, 0)) := by
    rw [← hW2]
    refine (Below.heap_alloc _ _ _ (by simp; omega)).trans ?_
    rw [show P + 1 = (w.alloc (Obj.cells #[.func (.func 21) #[] #[]] 58)).heap.size from by simp [hP]]
    exact heap_alloc_new _ _
  have fl : W2.heap[P + 2]? = some (.cells #[.slice A T.length c] 27 (0, 0)) := by
    rw [← hW2, show P + 2 = ((w.alloc (Obj.cells #[.func (.func 21) #[] #[]] 58)).alloc (Obj.cells #[.int .i64 0] 3)).heap.size from by simp [hP]]
    exact heap_alloc_new _ _
  have hJ0 : LaJ w P [] W2 := ⟨hb2, f3, f4, fun x hx => by simp at hx⟩
  have hs2 := hs.below hb2
  clear hW2 f3 f4
  rw [show w.heap.size + 1 + 1 = P + 2 from by rw [hP]]
  rw [← hP]
  replace z2 := hide z2
  have hPw := hide hP
  clear hP
  refine range_c (gf := 42) rfl (fun _ _ => rfl) (back1_c (P + 2) w.heap.size (P + 3) A c T (by omega) (by rw [← unhide hPw]; omega) hsm W2 fl hs2 (by rw [unhide z2]; omega))
    (fun h k => h.trans k) (fun W l o o' hl h h2 _ => KpO.put h h2) (fun A B h => ⟨h.size, fun k o hk _ => (h.block k (Array.getElem?_eq_some_iff.1 hk).1).trans hk⟩) (Below.refl _ _) (fun _ => rfl)
    (fun pre W => LaJ w P pre W) (fun c _ W => c = .ret ∧ LaX w P (lastS T) W) ?_ ?_ ?_ ?_ hJ0 ?_ ?_ ?_
  · rintro pre X Y row h hg hr
    exact h.grow hg (fun r e => ⟨by have := (hr r e).1; rw [unhide z2] at this; have := unhide hPw; omega, (hr r e).2⟩)
  · rintro c pre X Y row ⟨e, h⟩ hg hr
    exact ⟨e, h.grow hg (fun r e => ⟨by have := (hr r e).1; rw [unhide z2] at this; have := unhide hPw; omega, (hr r e).2⟩)⟩
  · rintro pre X Y hs h
    exact h.below hs
  · rintro c pre X Y hs ⟨e, h⟩
    exact ⟨e, h.below hs⟩
  · rintro l pre x W hI hlen hsp hsz
    obtain ⟨hp1, rfl, hp2⟩ := backL_at hsp
    obtain ⟨m, hm⟩ : ∃ m, m = T.length - 1 - pre.length := ⟨_, rfl⟩
    have hmT : m < T.length := by omega
    have hrT : T.getD m zPR ∈ T := by rw [List.getD_eq_getElem?_getD, List.getElem?_eq_getElem hmT]; exact List.getElem_mem hmT
    rw [← hm]
    have hpr := hT _ hrT
    have hyes : stB (T.getD m zPR).2.2 = true → lastS T = (m : Int) := fun h => by
      rw [hm] at h ⊢
      exact lastS_some hp1 (fun x hx => hI.no x (by rw [hp2]; exact hx)) h
    have hno2 : stB (T.getD m zPR).2.2 = false → ∀ x ∈ pre ++ [((m : Int), T.getD m zPR)], stB x.2.2.2 = false := fun h x hx => by
      rcases List.mem_append.1 hx with h1 | h1
      · exact hI.no x h1
      · rw [List.mem_singleton.1 h1]; exact h
    obtain ⟨⟨A0, c0, ps⟩, hr⟩ : ∃ r, r = T.getD m zPR := ⟨_, rfl⟩
    rw [← hr] at hpr hyes hno2 ⊢
    simp only at hyes hno2
    clear hr hrT hp1 hp2 hm hsp
    simp only [PR.cell]
    obtain ⟨nn, hnn⟩ : ∃ nn, nn = ps.length := ⟨_, rfl⟩
    rw [← hnn]
    replace hnn := hide hnn
    replace hyes := hide hyes
    replace hno2 := hide hno2
    gi_wp2_with fail
    refine ⟨⟨Nat.le_refl _, fun _ _ h _ => h⟩, KpO.refl _ _, fun X' => LaJ w P pre X', fun Y Z row h1 hg hr => h1.grow hg (fun r e => ⟨by have := (hr r e).1; rw [unhide z2] at this; have := unhide hPw; omega, (hr r e).2⟩), hI, ?_⟩
    rintro W₂ hI2 hz2
    have hpr2 := hpr.below hI2.b
    have c3 : W₂.cell? ⟨P, 0, none⟩ = some (.func (.func 21) #[] #[]) := by simp [World.cell?, hI2.h3]
    have hcall := fun W' (hb : Below W₂.heap.size W₂ W') => started_any A0 c0 nn ps W' (unhide hnn) (by have := unhide hnn; have := hpr2.2.1; simp only at this; omega) ((hpr2.2.2.2.1.below hb).more hb.size)
    have hbz := hI2.b.size
    have h4l := (Array.getElem?_eq_some_iff.1 hI2.h4).1
    replace hcall := hide hcall
    replace hI2 := hide hI2
    clear hpr hpr2 hI
    gi_wp2_with fail
    refine (callsIn_round ((unhide hcall) _ (Below.refl _ _))).mono ?_
    rintro e W3 ⟨rfl, hb3⟩
    have hJ3 := (unhide hI2).below hb3
    have hko : KeepsOthers W₂ W3 := ⟨hb3.size, fun k o hk _ => (hb3.block k (Array.getElem?_eq_some_iff.1 hk).1).trans hk⟩
    clear hcall c3
    cases hst : stB ps with
    | false =>
      have hno3 := (unhide hno2) hst
      clear hst
      replace hno3 := hide hno3
      gi_wp2_with fail
      all_goals exact ⟨hko, KpO.of_below hb3, ⟨hJ3.b, hJ3.h3, hJ3.h4, unhide hno3⟩⟩
    | true =>
      have hy3 := (unhide hyes) hst
      clear hst
      have d4 : W3.cell? ⟨P + 1, 0, none⟩ = some (.int .i64 0) := by simp [World.cell?, hJ3.h4]
      have d4f : W3.frozen? ⟨P + 1, 0, none⟩ = false := by simp [World.frozen?, hJ3.h4]
      have hX : LaX w P (lastS T) (W3.setCell ⟨P + 1, 0, none⟩ (.int .i64 (m : Int))) :=
        ⟨hJ3.b.setCell (by show w.heap.size ≤ P + 1; have := unhide hPw; omega) _, by rw [hy3]; exact heap_setCell_same _ _ _ _ _ _ hJ3.h4⟩
      have hko2 : KeepsOthers W₂ (W3.setCell ⟨P + 1, 0, none⟩ (.int .i64 (m : Int))) := hko.trans (KeepsOthers.setCell _ _ _)
      replace hX := hide hX
      replace hy3 := hide hy3
      gi_wp2_with fail
      all_goals exact ⟨hko2, rfl, unhide hX⟩
  · rintro D xs W hDl rfl hI hD
    have hl := lastS_none hI.no
    have c4 : W.cell? ⟨P + 1, 0, none⟩ = some (.int .i64 0) := by simp [World.cell?, hI.h4]
    have c4f : W.frozen? ⟨P + 1, 0, none⟩ = false := by simp [World.frozen?, hI.h4]
    have hne : D ≠ P + 1 := fun e => by subst e; rw [hI.h4] at hD; cases hD
    have hX : LaX w P (lastS T) (W.setCell ⟨P + 1, 0, none⟩ (.int .i64 (-1))) := ⟨hI.b.setCell (by show w.heap.size ≤ P + 1; have := unhide hPw; omega) _, by rw [hl]; exact heap_setCell_same _ _ _ _ _ _ hI.h4⟩
    have hD' : (W.setCell ⟨P + 1, 0, none⟩ (.int .i64 (-1))).heap[D]? = some (.deferred (some [])) := (Below.heap_setCell _ _ _ _ hne).trans hD
    replace hl := hide hl
    replace hX := hide hX
    gi_wp2_with fail
    have hX2 := (unhide hX).grow (grownBy_putObj' _ D (.deferred none)) (fun r e => by cases e; exact ⟨by rw [unhide z2] at hDl; have := unhide hPw; omega, _, hD', rfl⟩)
    refine ⟨by simp, .inl ⟨_, _, rfl, run_takeDeferred hD', ?_⟩⟩
    exact ⟨_, results_c1 (v := .int .i64 (lastS T)) (a := ⟨P + 1, 0, none⟩) rfl Try.underlying3 rfl (by simp [World.cell?, hX2.h4]), rfl, hX2.b⟩
  · rintro D c pre W hDl hsp ⟨rfl, hI⟩ hD
    gi_wp2_with fail
    have hX2 := hI.grow (grownBy_putObj' _ D (.deferred none)) (fun r e => by cases e; exact ⟨by rw [unhide z2] at hDl; have := unhide hPw; omega, _, hD, rfl⟩)
    refine ⟨by simp, .inl ⟨_, _, rfl, run_takeDeferred hD, ?_⟩⟩
    exact ⟨_, results_c1 (v := .int .i64 (lastS T)) (a := ⟨P + 1, 0, none⟩) rfl Try.underlying3 rfl (by simp [World.cell?, hX2.h4]), rfl, hX2.b⟩
end Go.Proofs.Ytodbmgafejclmaa.Base
