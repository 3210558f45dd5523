/-
  Parts of a proof, laid together by a program of mine (pack.py): Ep.
-/
import Derived.Test.YtodbmgafejclmaaZD51
namespace Go.Proofs.Ytodbmgafejclmaa.Base
open Go.RowKit Go.Maps Go.Proofs.YtodbmgafejclmaaW.PrintWords Go.Proofs.YtodbmgafejclmaaW.PrintLast
set_option linter.unusedSimpArgs false
set_option linter.unusedVariables false
theorem stB_at {ps : List Pg} {j : Nat} (h : ∃ p, ps[j]? = some p ∧ p.1 ≠ 0) : stB ps = true := by
  obtain ⟨p, hp, h0⟩ := h
  unfold stB
  rw [List.any_eq_true]
  exact ⟨p, List.mem_of_getElem? hp, by simpa using h0⟩
theorem zs_at {ps : List Pg} {j : Nat} (h : (ps[j]?).map Prod.fst = some 0) : 0 < zs ps := by
  unfold zs
  rw [List.count_pos_iff]
  rw [← List.getElem?_map] at h
  exact List.mem_of_getElem? h
/-- the pages ahead of the die that was erased are blank -/
def BlkE (m i : Nat) (rp ps : List Pg) : Prop := ps.length = m + 2 ∧ (0 < i → (ps[0]?).map Prod.fst = some 0) ∧ (i = 0 → ps = rp)
theorem BlkE.start {m : Nat} {rp : List Pg} (h : rp.length = m + 2) : BlkE m 0 rp rp := ⟨h, fun h => absurd h (by omega), fun _ => rfl⟩
theorem BlkE.step {m i : Nat} {rp ps : List Pg} (h : BlkE m i rp ps) (hi : i < m + 2) : BlkE m (i + 1) rp (ps.set i ((0, none, 0, []) : Pg)) := by
  refine ⟨by rw [List.length_set]; exact h.1, fun _ => ?_, fun h => absurd h (by omega)⟩
  rw [List.getElem?_set]
  by_cases e : i = 0
  · rw [if_pos e, if_pos (by rw [h.1]; omega)]; rfl
  · rw [if_neg e]; exact h.2.1 (by omega)
/-- what a row tells whose g-th die was erased -/
def RowE (m N : Nat) (es : List Ent) (g j : Nat) (ps : List Pg) : Prop :=
  stB ps = true ∧ (0 < g → 0 < zs ps) ∧ (g = 0 → (decP 3 j ps 1).2 = none ∨ (decP 3 j ps 1).2 = some (wrote es m N j))
section
variable {m N g k : Nat} {es : List Ent} {rp ps : List Pg}
theorem RowE.data {D : List Int} {A : Option Addr} {c : Nat} (hm : 4 ≤ m ∧ m ≤ 6) (hwf : ∀ e ∈ es, e.Wf) (hk : k ≤ 100) (hD : D.length = 48) (hDb : OkB D) (hg : g < m + 2)
    (hr : rp.map qOf = pagesQ (fullE (10 + k) 3 k (mkS es m k (decide (k + 1 = N))) m) []) (h : BlkE m g rp ps) :
    RowE m N es g k (ps.set g (2, A, c, D)) ∧ ∀ j, g < j → j < m + 2 → RowE m N es g k ((ps.set g (2, A, c, D)).set j badPg) := by
  obtain ⟨h1, h2, h3⟩ := h
  have a1 : (ps.set g (2, A, c, D))[g]? = some ((2, A, c, D) : Pg) := by rw [List.getElem?_set, if_pos rfl, if_pos (by omega)]
  have a2 : 0 < g → (ps.set g ((2, A, c, D) : Pg))[0]? = ps[0]? := fun h0 => by rw [List.getElem?_set, if_neg (by omega)]
  refine ⟨⟨stB_at ⟨_, a1, by first | (show (2 : Int) ≠ 0; decide) | (show (1 : Int) ≠ 0; decide)⟩, fun h0 => zs_at (j := 0) (by rw [a2 h0]; exact h2 h0), fun h0 => ?_⟩, fun j hj hj2 => ⟨stB_at (j := g) ⟨_, by rw [List.getElem?_set, if_neg (by omega)]; exact a1, by first | (show (2 : Int) ≠ 0; decide) | (show (1 : Int) ≠ 0; decide)⟩, fun h0 => zs_at (j := 0) ?_, fun h0 => ?_⟩⟩
  · obtain rfl := h3 h0
    subst h0
    exact (dec_first (A := A) (c := c) hm (by omega) hwf hk hD hDb hr).2
  · rw [List.getElem?_set, if_neg (by omega), a2 h0]; exact h2 h0
  · obtain rfl := h3 h0
    subst h0
    exact (dec_first (A := A) (c := c) hm (by omega) hwf hk hD hDb hr).1 j hj hj2
theorem RowE.bad (hm : 4 ≤ m ∧ m ≤ 6) (hwf : ∀ e ∈ es, e.Wf) (hk : k ≤ 100) (hg : g < m + 2)
    (hr : rp.map qOf = pagesQ (fullE (10 + k) 3 k (mkS es m k (decide (k + 1 = N))) m) []) (h : BlkE m g rp ps) :
    RowE m N es g k (ps.set g badPg) ∧ ∀ j, g < j → j < m + 2 → RowE m N es g k ((ps.set g badPg).set j badPg) := by
  obtain ⟨h1, h2, h3⟩ := h
  have a1 : (ps.set g badPg)[g]? = some badPg := by rw [List.getElem?_set, if_pos rfl, if_pos (by omega)]
  have a2 : 0 < g → (ps.set g badPg)[0]? = ps[0]? := fun h0 => by rw [List.getElem?_set, if_neg (by omega)]
  refine ⟨⟨stB_at ⟨_, a1, by first | (show (2 : Int) ≠ 0; decide) | (show (1 : Int) ≠ 0; decide)⟩, fun h0 => zs_at (j := 0) (by rw [a2 h0]; exact h2 h0), fun h0 => ?_⟩, fun j hj hj2 => ⟨stB_at (j := g) ⟨_, by rw [List.getElem?_set, if_neg (by omega)]; exact a1, by first | (show (2 : Int) ≠ 0; decide) | (show (1 : Int) ≠ 0; decide)⟩, fun h0 => zs_at (j := 0) ?_, fun h0 => ?_⟩⟩
  · obtain rfl := h3 h0
    subst h0
    exact (dec_first_bad hm (by omega) hwf hk hr).2
  · rw [List.getElem?_set, if_neg (by omega), a2 h0]; exact h2 h0
  · obtain rfl := h3 h0
    subst h0
    exact (dec_first_bad hm (by omega) hwf hk hr).1 j hj hj2
/-- rows so far -/
def RowsE (m N : Nat) (es : List Ent) (g k : Nat) (T : List PR) : Prop := T.length = k ∧ ∀ j, j < k → RowE m N es g j (pgsOf T j)
theorem RowsE.app {T : List PR} (h : RowsE m N es g k T) {r : PR} (hr : RowE m N es g k r.2.2) : RowsE m N es g (k + 1) (T ++ [r]) := by
  refine ⟨by rw [List.length_append, h.1]; rfl, fun j hj => ?_⟩
  unfold pgsOf
  by_cases e : j = k
  · rw [getD_app_eq (by rw [h.1, e]), e]; exact hr
  · rw [getD_app_lt (by rw [h.1]; omega)]
    exact h.2 j (by omega)
theorem RowsE.last {T : List PR} (h : RowsE m N es g N T) (hN : 0 < N) : lastS T = ((N - 1 : Nat) : Int) := by
  unfold lastS
  rw [h.1]
  exact lastN_at (by omega) (h.2 _ (by omega)).1 (fun j h1 h2 => by omega)
/-- what it tells at last -/
theorem RowsE.look {T : List PR} (h : RowsE m N es g N T) (hN : 0 < N) : (0 < g → (lookP 3 T).2 = []) ∧ (g = 0 → ∀ r ∈ (lookP 3 T).2, r ∈ (List.range (N - 1)).map fun (j : Nat) => (((wrote es m N j).1, (j : Int), (wrote es m N j).2) : RowP)) := by
  have hl : lastS T = ((N - 1 : Nat) : Int) := by
    unfold lastS
    rw [h.1]
    exact lastN_at (by omega) (h.2 _ (by omega)).1 (fun j h1 h2 => by omega)
  rw [lookP_st (by omega), hl]
  refine ⟨fun h0 => ?_, fun h0 r hr => ?_⟩
  · rw [Int.toNat_natCast]
    exact soundR_none (fun k hk => decP_zero ((h.2 k (by omega)).2.1 h0))
  · rw [Int.toNat_natCast] at hr
    obtain ⟨k, hk, rfl⟩ := soundR_some (f := fun j => wrote es m N j) (fun k hk => (h.2 k (by omega)).2.2 h0) r hr
    exact List.mem_map.2 ⟨k, List.mem_range.2 hk, rfl⟩
/-- what all rows, written, tell -/
theorem look_all {T : List PR} (h : Made 3 m N N es T) (hm : 4 ≤ m ∧ m ≤ 6) (hwf : ∀ e ∈ es, e.Wf) (hN : N ≤ 8) (hN1 : 1 ≤ N) : (lookP 3 T).2 = (List.range (N - 1)).map fun (j : Nat) => ((wrote es m N j).1, (j : Int), (wrote es m N j).2) := by
  have hl := h.last hwf ⟨by omega, by omega⟩
  rw [lookP_st (by omega), hl, show ((N : Int) - 1).toNat = N - 1 from by omega]
  exact soundR_all (fun j hj => by rw [(h.dec hm (by omega) hwf hN (by omega) (by omega)).2])
end
end Go.Proofs.Ytodbmgafejclmaa.Base
