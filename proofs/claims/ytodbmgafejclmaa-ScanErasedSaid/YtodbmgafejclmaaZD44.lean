/-
  Parts of a proof, laid together by a program of mine (pack.py): Xr.
-/
import Derived.Test.YtodbmgafejclmaaZD43
namespace Go.Proofs.Ytodbmgafejclmaa.Base
open Go.RowKit Go.Maps Go.Proofs.YtodbmgafejclmaaW.PrintWords Go.Proofs.YtodbmgafejclmaaW.PrintLast
set_option linter.unusedSimpArgs false
set_option linter.unusedVariables false
/-- a copy of a row's pages; their bytes lie apart from a block -/
structure Xr (w : World) (base g : Nat) (A : Option Addr) (n c : Nat) (ps : List Pg) : Prop where
  own : Ow w base 35 2 (.slice A n c) (ps.map Pg.arr)
  len : n = ps.length
  hc : n ≤ c
  le : n ≤ 1000
  at_ : PgsAt w ps
  i64 : ∀ p ∈ ps, I64 p.1
  ap : ∀ p ∈ ps, ∀ a, p.2.1 = some a → a.block ≠ g ∧ some a.block ≠ (Value.slice A n c).ownBlock
  lo : g < base
theorem Xr.below {w w' : World} {base g n c : Nat} {A : Option Addr} {ps : List Pg} (h : Xr w base g A n c ps) (hb : Below w.heap.size w w') : Xr w' base g A n c ps :=
  { h with own := h.own.below hb (fun g e => (h.own.lt g e).2), at_ := h.at_.below hb }
theorem Xr.copy (w : World) (g : Nat) (r : PR) (n : Nat) (hn : n = r.2.2.length) (hr : PrOk w r) (hap : ∀ p ∈ r.2.2, ∀ a, p.2.1 = some a → a.block ≠ g) (hg : g < w.heap.size) (ty : TypeId) :
    ∃ A' c' w', (Builtin.append_ #[33, 33] ty #[.slice (some ⟨w.heap.size, 0, none⟩) 0 0, .slice r.1 n r.2.1]).run Try.prog (w.alloc (.cells #[] 35)) = .ok (.slice A' n c') w' ∧ Xr w' w.heap.size g A' n c' r.2.2 ∧ Below w.heap.size w w' := by
  subst hn
  have hb0 := (Below.refl w.heap.size w).alloc (Nat.le_refl _) (.cells #[] 35)
  obtain ⟨A', c', w', hrun, ho, hg', hc⟩ := run_append_pg (w.alloc (.cells #[] 35)) w.heap.size 0 (.slice (some ⟨w.heap.size, 0, none⟩) 0 0) [] r.2.2 (Ow.empty w _ _) rfl 0 w.heap.size r.1 r.2.2.length r.2.1 (hr.2.2.2.1.alloc (Nat.le_refl _) _) rfl (by have := hr.2.1; omega) (by rw [World.size_alloc]; omega) ty
  rw [Nat.zero_add] at hrun ho hc
  rw [List.nil_append] at ho
  have hb : Below w.heap.size w w' := below_grown hb0 hg' (by rw [World.size_alloc]; omega) (fun k ek => by simp only [Value.ownBlock, Option.some.injEq] at ek; omega)
  exact ⟨A', c', w', hrun, ⟨ho, rfl, hc, hr.2.1, hr.2.2.2.2.below hb, hr.2.2.1, fun p hp a ha => ⟨hap p hp a ha, fun e => by have h1 := (ho.lt a.block e.symm).1; have h2 := (hr.2.2.2.2 p hp).2.2.2.1 a ha; omega⟩, hg⟩, hb⟩
theorem Xr.some_of {w : World} {base g n c : Nat} {A : Option Addr} {ps : List Pg} (h : Xr w base g A n c ps) (hn : 0 < n) : ∃ x, A = some ⟨x, 0, none⟩ ∧ base ≤ x ∧ x < w.heap.size := by
  obtain ⟨x, h1, h2, h3, _⟩ := h.own.some_of hn
  exact ⟨x, h1, h2, h3⟩
/-- a page of the copy is another one -/
theorem Xr.set {w : World} {base g x n c : Nat} {ps : List Pg} (h : Xr w base g (some ⟨x, 0, none⟩) n c ps) (hx : base ≤ x) (j : Nat) (hj : j < n) (p : Pg) (hp : PgOk w p) (hp2 : I64 p.1) (hap : ∀ a, p.2.1 = some a → a.block ≠ g ∧ a.block ≠ x) :
    Xr ((w.setCell ⟨x, j * 2, none⟩ (.int .i64 p.1)).setCell ⟨x, j * 2 + 1, none⟩ p.2.cell) base g (some ⟨x, 0, none⟩) n c (ps.set j p) ∧
      w.cell? ⟨x, j * 2, none⟩ ≠ none ∧ w.cell? ⟨x, j * 2 + 1, none⟩ ≠ none ∧ w.frozen? ⟨x, j * 2, none⟩ = false ∧ w.frozen? ⟨x, j * 2 + 1, none⟩ = false := by
  obtain ⟨h1, h2⟩ := h.own.setPg h.len j hj p
  have hk : ∀ q : Pg, (PgOk w q ∧ ∀ a, q.2.1 = some a → a.block ≠ x) → PgOk ((w.setCell ⟨x, j * 2, none⟩ (.int .i64 p.1)).setCell ⟨x, j * 2 + 1, none⟩ p.2.cell) q := by
    rintro q ⟨⟨k1, k2, k3, k4, k5⟩, k6⟩
    have hz : ((w.setCell ⟨x, j * 2, none⟩ (.int .i64 p.1)).setCell ⟨x, j * 2 + 1, none⟩ p.2.cell).heap.size = w.heap.size := by simp [World.setCell]
    exact ⟨k1, k2, (k3.keep (fun a ha => (Below.heap_setCell _ _ _ _ (k6 a ha)).trans (Below.heap_setCell _ _ _ _ (k6 a ha)))).more (by omega), fun a ha => by rw [hz]; exact k4 a ha, k5⟩
  refine ⟨⟨h1, by rw [List.length_set]; exact h.len, h.hc, h.le, fun q hq => ?_, fun q hq => ?_, fun q hq => ?_, h.lo⟩, h2⟩
  · rcases List.mem_or_eq_of_mem_set hq with h3 | h3
    · exact hk q ⟨h.at_ q h3, fun a ha e => (h.ap q h3 a ha).2 (by rw [e]; rfl)⟩
    · rw [h3]; exact hk p ⟨hp, fun a ha => (hap a ha).2⟩
  · rcases List.mem_or_eq_of_mem_set hq with h3 | h3
    · exact h.i64 q h3
    · rw [h3]; exact hp2
  · rcases List.mem_or_eq_of_mem_set hq with h3 | h3
    · exact h.ap q h3
    · rw [h3]; exact fun a ha => ⟨(hap a ha).1, fun e => by injection e with e; exact (hap a ha).2 e⟩
/-- the copy is put in its place -/
theorem Xr.put {w : World} {bp base g N cp n c k : Nat} {A : Option Addr} {ps : List Pg} {T : List PR} (h : Xr w base g A n c ps) (hT : Pn w bp (.slice (some ⟨g, 0, none⟩) N cp) T) (hN : N = T.length) (hk : k < N) (hn : 0 < n) :
    Pn (w.setCell ⟨g, k, none⟩ (.slice A n c)) bp (.slice (some ⟨g, 0, none⟩) N cp) (T.set k (A, c, ps)) ∧ (∃ v, w.cell? ⟨g, k, none⟩ = some v) ∧ w.frozen? ⟨g, k, none⟩ = false := by
  obtain ⟨x, rfl, hx1, hx2⟩ := h.some_of hn
  have hcl : PR.cell ((some ⟨x, 0, none⟩, c, ps) : PR) = .slice (some ⟨x, 0, none⟩) n c := by rw [PR.cell, ← h.len]
  have hlo := h.lo
  have hr : PrOk w (some ⟨x, 0, none⟩, c, ps) := ⟨by show ps.length ≤ c; rw [← h.len]; exact h.hc, by show ps.length ≤ 1000; rw [← h.len]; exact h.le, h.i64, (h.own.sl (Pg.sized _) (by omega)).less (Nat.zero_le _), h.at_⟩
  obtain ⟨h1, h2, h3⟩ := hT.setRow hN k hk (some ⟨x, 0, none⟩, c, ps) hr ⟨fun a ha => by cases ha; exact ⟨hx2, fun e => by injection e with e; simp only at e; omega⟩, fun p hp a ha e => by injection e with e; exact (h.ap p hp a ha).1 e⟩
  rw [hcl] at h1
  exact ⟨h1, ⟨_, h2⟩, h3⟩
theorem Pn.row {w : World} {base n c g : Nat} {T : List PR} (h : Pn w base (.slice (some ⟨g, 0, none⟩) n c) T) {k : Nat} (hk : k < T.length) : PrOk w (T.getD k zPR) ∧ (∀ p ∈ (T.getD k zPR).2.2, ∀ a, p.2.1 = some a → a.block ≠ g) := by
  have hm : T.getD k zPR ∈ T := by rw [List.getD_eq_getElem?_getD, List.getElem?_eq_getElem hk]; exact List.getElem_mem hk
  exact ⟨(h.2 _ hm).1, fun p hp a ha e => (h.2 _ hm).2.2 p hp a ha (by rw [e]; rfl)⟩
/-- a page of the copy is another one, and the copy is put in its place -/
theorem Xr.step {w w5 : World} {bp g N cp n c5 k j x5 : Nat} {T : List PR} {ps : List Pg} (hP : Pn w bp (.slice (some ⟨g, 0, none⟩) N cp) T) (hN : N = T.length) (hb5 : Below w.heap.size w w5) (hx : Xr w5 w.heap.size g (some ⟨x5, 0, none⟩) n c5 ps)
    (hx5 : w.heap.size ≤ x5) (hk : k < N) (hj : j < n) (p : Pg) (hp : PgOk w5 p) (hp2 : I64 p.1) (hap : ∀ a, p.2.1 = some a → a.block ≠ g ∧ a.block ≠ x5) (B : Nat) (hB : B ≤ w.heap.size) (hBg : B ≤ g) :
    Xr ((w5.setCell ⟨x5, j * 2, none⟩ (.int .i64 p.1)).setCell ⟨x5, j * 2 + 1, none⟩ p.2.cell) w.heap.size g (some ⟨x5, 0, none⟩) n c5 (ps.set j p) ∧
    (∃ v, w5.cell? ⟨x5, j * 2, none⟩ = some v) ∧ (∃ v, w5.cell? ⟨x5, j * 2 + 1, none⟩ = some v) ∧ w5.frozen? ⟨x5, j * 2, none⟩ = false ∧ w5.frozen? ⟨x5, j * 2 + 1, none⟩ = false ∧
    (∃ v, w5.cell? ⟨g, k, none⟩ = some v) ∧ w5.frozen? ⟨g, k, none⟩ = false ∧ x5 ≠ g ∧
    Pn (((w5.setCell ⟨x5, j * 2, none⟩ (.int .i64 p.1)).setCell ⟨x5, j * 2 + 1, none⟩ p.2.cell).setCell ⟨g, k, none⟩ (.slice (some ⟨x5, 0, none⟩) n c5)) bp (.slice (some ⟨g, 0, none⟩) N cp) (T.set k (some ⟨x5, 0, none⟩, c5, ps.set j p)) ∧
    Below B w (((w5.setCell ⟨x5, j * 2, none⟩ (.int .i64 p.1)).setCell ⟨x5, j * 2 + 1, none⟩ p.2.cell).setCell ⟨g, k, none⟩ (.slice (some ⟨x5, 0, none⟩) n c5)) := by
  obtain ⟨hx6, n1, n2, f1, f2⟩ := hx.set hx5 j hj p hp hp2 hap
  have hlo := hx.lo
  have hxg : x5 ≠ g := by omega
  have hP5 := hP.below hb5
  have hb6 : Below w.heap.size w ((w5.setCell ⟨x5, j * 2, none⟩ (.int .i64 p.1)).setCell ⟨x5, j * 2 + 1, none⟩ p.2.cell) := (hb5.setCell hx5 _).setCell hx5 _
  obtain ⟨h1, h2, h3⟩ := hx6.put (hP.below hb6) hN hk (by omega)
  have h0 : w5.ownsRow bp 33 1 (.slice (some ⟨g, 0, none⟩) T.length cp) T.length (flat (T.map PR.arr)) := by have := hP5.1; unfold Ow at this; rw [List.length_map, hN] at this; exact this
  exact ⟨hx6, some_of_ne n1, some_of_ne n2, f1, f2, ⟨_, hP5.cell (by omega)⟩, h0.frozenAt _, hxg, h1, (hb6.mono hB).setCell hBg _⟩
end Go.Proofs.Ytodbmgafejclmaa.Base
