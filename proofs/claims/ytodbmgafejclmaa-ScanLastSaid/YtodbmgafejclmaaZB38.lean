/-
  Parts of a proof, laid together by a program of mine (pack.py): Px.
-/
import Derived.Test.YtodbmgafejclmaaZB37
namespace Go.Proofs.Ytodbmgafejclmaa.Base
open Go.RowKit Go.Proofs.YtodbmgafejclmaaW.PrintWords
open Go.Proofs.Ytodbmgafejclmaa.Fld Go.Proofs.Ytodbmgafejclmaa.Pl
set_option linter.unusedSimpArgs false
set_option linter.unusedVariables false
/-- numbers that a row may have -/
def NumOk (d s u a : Int) (l : Nat) : Prop := 6 ≤ d ∧ d ≤ 8 ∧ 1 ≤ s ∧ s ≤ 1099511627776 ∧ 0 ≤ u ∧ u ≤ 255 ∧ 0 ≤ a ∧ a ≤ 255 ∧ (l : Int) ≤ d - 2
/-- what a call of Encode answers -/
def EncR (d s u a : Int) (es : List Ent) (w : World) (x : Ending) (w' : World) : Prop :=
  ((NumOk d s u a es.length ∧ (∀ e ∈ es, OkE e)) ∧ ∃ (n : Nat) (A' : Option Addr) (c' : Nat) (T : List Hr), d = (n : Int) + 2 ∧ x = .returned (.tuple #[.slice A' (n + 2) c', .int .i64 0]) ∧ n + 2 ≤ c' ∧ Rws w' w.heap.size (.slice A' (n + 2) c') T ∧ T.map (·.2.2) = fullE s u a es n) ∨
  (¬ (NumOk d s u a es.length ∧ (∀ e ∈ es, OkE e)) ∧ x = .returned (.tuple #[.slice none 0 0, .int .i64 1]))
theorem sum_len (L : List (List Int)) (n : Nat) : (sumP L n).length = n ∧ (sumQ L n).length = n := by simp [sumP, sumQ]
theorem rencode_all (d s u a : Int) (A : Option Addr) (c : Nat) (es : List Ent) (w : World) (hd : I64 d) (hl : es.length ≤ 1000000) (hwf : ∀ e ∈ es, e.Wf) (hc : es.length ≤ c) (hs0 : Sl w 0 w.heap.size 19 A (es.map Ent.arr)) :
    Calls Try.prog 17 #[.int .i64 d, .int .i64 s, .int .i64 u, .int .i64 a, .slice A es.length c] w fun x w' => EncR d s u a es w x w' ∧ Below w.heap.size w w' := by
  by_cases h : NumOk d s u a es.length
  · obtain ⟨m, hm⟩ := firstBad es
    have h' := h
    obtain ⟨h1, h2, h3, h4, h5, h6, h7, h8, h9⟩ := h
    obtain ⟨n, rfl⟩ : ∃ n : Nat, d = ((n + 2 : Nat) : Int) := ⟨(d - 2).toNat, by omega⟩
    by_cases hme : m < es.length
    · exact (rencode_bad2 (n + 2) n m s u a A c es w ⟨by omega, by omega⟩ rfl ⟨h3, h4⟩ ⟨h5, h6⟩ ⟨h7, h8⟩ (by omega) hwf hme hm.2.1 (hm.2.2 hme) hc hs0).mono fun x w' ⟨hx, hb⟩ => ⟨.inr ⟨fun hh => hm.2.2 hme (hh.2 _ (List.getElem_mem hme)), hx⟩, hb⟩
    · have hok : ∀ e ∈ es, OkE e := fun e he => by
        obtain ⟨i, hi, rfl⟩ := List.mem_iff_getElem.1 he
        exact hm.2.1 i hi (by omega)
      refine (rencode_ok (n + 2) n s u a A c es _ _ w ⟨by omega, by omega⟩ rfl ⟨h3, h4⟩ ⟨h5, h6⟩ ⟨h7, h8⟩ (by omega) hwf hok hc hs0 (by rw [(sum_len _ _).1]; omega) (by rw [(sum_len _ _).2]; omega) (par_ref s u a es n hwf (by omega) (by omega))).mono fun x w' ⟨⟨A', c', T, hx, hc', hT, hL⟩, hb⟩ => ⟨.inl ⟨⟨h', hok⟩, n, A', c', T, by simp, hx, hc', hT, hL⟩, hb⟩
  · exact (rencode_bad1 d s u a A es.length c w hd hl h).mono fun x w' ⟨hx, hb⟩ => ⟨.inr ⟨fun hh => h hh.1, hx⟩, hb⟩
end Go.Proofs.Ytodbmgafejclmaa.Base
