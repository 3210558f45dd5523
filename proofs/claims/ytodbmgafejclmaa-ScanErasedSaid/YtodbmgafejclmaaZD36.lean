/-
  Parts of a proof, laid together by a program of mine (pack.py): Pz.
-/
import Derived.Test.YtodbmgafejclmaaZD35
namespace Go.Proofs.Ytodbmgafejclmaa.Base
open Go.RowKit Go.Proofs.YtodbmgafejclmaaW.PrintWords
open Go.Proofs.Ytodbmgafejclmaa.Fld Go.Proofs.Ytodbmgafejclmaa.Pl
set_option linter.unusedSimpArgs false
set_option linter.unusedVariables false
theorem parC_ref (L : List (List Int)) (n : Nat) (hn : ∀ r ∈ L, r.length = n) (hL : ∀ r ∈ L, Bytes r) (h2 : 2 ≤ L.length) (h14 : L.length ≤ 14) (hn2 : n ≤ 281474976710656) : ParC 27 L (sumP L n) (sumQ L n) := by
  intro A c w hC hc
  obtain ⟨K, hK⟩ := Go.Proofs.Ytodbmgafejclmaa.Rp.refpar_ev L n hn hL h2 h14 hn2
  refine (Go.Proofs.Ytodbmgafejclmaa.PRr.ramekinref5_Parity.calls K A c L _ _ w hC hc (hK K (Nat.le_refl _))).mono ?_
  rintro e w' ⟨v0, v1, rfl, h0, h1, hb⟩
  exact ⟨v0, v1, rfl, ⟨_, h0⟩, ⟨_, h1⟩, hb⟩
theorem bytesE_byt (h0 h1 h2 h3 : Int) (e : Ent) (he : e.Wf) : Bytes (bytesE h0 h1 h2 h3 e) := by
  have hm : ∀ x : Int, Byt (x % 256) := fun x => ⟨Int.emod_nonneg _ (by omega), Int.emod_lt_of_pos _ (by omega)⟩
  have hle : ∀ (n : Int) (k : Nat), ∀ x ∈ leI n k, Byt x := fun n k x hx => by
    obtain ⟨i, _, rfl⟩ := List.mem_map.1 hx
    exact hm _
  intro x hx
  simp only [bytesE, List.mem_append, List.mem_singleton, List.mem_cons, List.not_mem_nil, or_false] at hx
  rcases hx with (((((((hx | rfl) | rfl) | rfl) | rfl) | hx) | hx) | hx) | (rfl | rfl | rfl | rfl)
  · exact hle _ _ _ hx
  · exact hm _
  · exact hm _
  · exact hm _
  · exact hm _
  · exact hle _ _ _ hx
  · exact hle _ _ _ hx
  · obtain ⟨i, rfl⟩ := List.mem_ofFn.1 hx
    exact he.2.2.2 i
  all_goals exact ⟨by omega, by omega⟩
theorem wf_zero : zeroE.Wf := ⟨by decide, by decide, by decide, fun _ => ⟨Int.le_refl _, by show (0 : Int) < 256; omega⟩⟩
theorem getD_wf {es : List Ent} (h : ∀ e ∈ es, e.Wf) (i : Nat) : (es.getD i zeroE).Wf := by
  rcases Nat.lt_or_ge i es.length with h1 | h1
  · rw [List.getD_eq_getElem?_getD, List.getElem?_eq_getElem h1]; exact h _ (List.getElem_mem h1)
  · rw [List.getD_eq_getElem?_getD, List.getElem?_eq_none h1]; exact wf_zero
theorem rowsE_48 (s u a : Int) (es : List Ent) (n : Nat) : ∀ r ∈ rowsE s u a es n, r.length = 48 := by
  intro r hr
  obtain ⟨i, _, rfl⟩ := List.mem_map.1 hr
  exact bytesE_len _ _ _ _ _
theorem rowsE_byt (s u a : Int) (es : List Ent) (n : Nat) (h : ∀ e ∈ es, e.Wf) : ∀ r ∈ rowsE s u a es n, Bytes r := by
  intro r hr
  obtain ⟨i, _, rfl⟩ := List.mem_map.1 hr
  exact bytesE_byt _ _ _ _ _ (getD_wf h i)
/-- a row's rows and their parities -/
def fullE (s u a : Int) (es : List Ent) (n : Nat) : List (List Int) := rowsE s u a es n ++ [sumP (rowsE s u a es n) 48, sumQ (rowsE s u a es n) 48]
theorem par_ref (s u a : Int) (es : List Ent) (n : Nat) (h : ∀ e ∈ es, e.Wf) (h2 : 2 ≤ n) (h14 : n ≤ 14) : ParC 27 (rowsE s u a es n) (sumP (rowsE s u a es n) 48) (sumQ (rowsE s u a es n) 48) :=
  parC_ref _ 48 (rowsE_48 s u a es n) (rowsE_byt s u a es n h) (by rw [rowsE_len]; exact h2) (by rw [rowsE_len]; exact h14) (by omega)
end Go.Proofs.Ytodbmgafejclmaa.Base
