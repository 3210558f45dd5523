/-
  Parts of a proof, laid together by a program of mine (pack.py): Kint.
-/
import Derived.Test.YtodbmgafejclmaaZB48
namespace Go.Proofs.Ytodbmgafejclmaa.Base
set_option linter.unusedSimpArgs false
set_option linter.unusedVariables false
open Go.ChangeShapes Go.WideShapes Go.ChangeAt Go.RowKit Go.Deep
section
variable {H : Type} {enc : TypeId × Value → H} {w : World} {base : Nat} {spare : Nat → Bool} {held : Bool}
/-- an argument that is a slice of integers -/
theorem open_kints {P : Program} {t e : TypeId} {k : IntKind} (ht : P.underlying t = some (.slice e)) (he : P.underlying e = some (.int k)) (hc : P.cellsOf e = 1) {r : Reach} {b0 : Nat} {v : Value} {d : DataW H} {p : List MemPlace} (hv : Value.okWide P w r b0 t v)
    (h : DataW.Trod enc P w 0 (fun _ => true) true t v d p) :
    ∃ (A : Option Addr) (es : List Int) (c : Nat), v = .slice A es.length c ∧ es.length ≤ c ∧ c ≤ maxLen ∧ Sl w 0 w.heap.size 1 A (es.map fun x => #[.int k x]) ∧ ∀ e ∈ es, (Lit.int k e).wf = true := by
  obtain ⟨a, len, cap, rfl⟩ := okWide_slice ht hv
  obtain ⟨fuel, hf⟩ := h
  rcases open_slice ht hf with ⟨h0, _⟩ | ⟨ad, len', cap', m, n, D, Pl, hcs, _, hl, hmx, hm, _, hi⟩
  · have h0' : a = none ∧ len = 0 ∧ cap = 0 := by simpa [Value.cells] using h0
    obtain ⟨rfl, rfl, rfl⟩ := h0'
    exact ⟨none, [], 0, rfl, Nat.le_refl _, by unfold maxLen; omega, Sl.nil, by simp⟩
  · have hcs' : a = some ad ∧ len = len' ∧ cap = cap' := by simpa [Value.cells] using hcs
    obtain ⟨rfl, rfl, rfl⟩ := hcs'
    rw [hc] at hi
    simp only [if_true] at hm
    have hex : ∀ i, i < len → ∃ e : Int, (Lit.int k e).wf = true ∧ w.cell? (ad.add i) = some (.int k e) := by
      intro i hil
      obtain ⟨cs', hcl, ht'⟩ := hi i (by omega)
      obtain ⟨_, hcl2, hat⟩ := World.cells?_some hcl
      obtain ⟨x, rfl, _⟩ := DataW.trod_int he ht'
      refine ⟨x, trod_int_wf he ht', ?_⟩
      have := hat 0 (by omega)
      rw [Go.Deep.add_add] at this
      simpa using this
    have : ∃ f : Nat → Int, ∀ i, i < len → (Lit.int k (f i)).wf = true ∧ w.cell? (ad.add i) = some (.int k (f i)) := by
      refine ⟨fun i => if h : i < len then Classical.choose (hex i h) else 0, fun i hi => ?_⟩
      simp only [dif_pos hi]
      exact Classical.choose_spec (hex i hi)
    obtain ⟨f, hfn⟩ := this
    refine ⟨some ad, (List.range len).map f, cap, by simp, by simpa using hl, hmx, ?_, ?_⟩
    · intro hne
      have hpos : 0 < len := by
        rcases Nat.eq_zero_or_pos len with h0 | h0
        · subst h0; simp at hne
        · exact h0
      have hsp : ad.spot = none := by
        have := (hfn 0 hpos).2
        cases hs : ad.spot with
        | none => rfl
        | some s =>
          exfalso
          have h00 : ad.add 0 = ad := by simp [Addr.add]
          rw [h00] at this
          unfold World.cell? at this
          rw [hs] at this
          split at this <;> simp at this
      obtain ⟨b, o, sp⟩ := ad
      subst hsp
      refine ⟨b, o, rfl, Nat.zero_le _, ?_, fun i hi => ?_⟩
      · have := (hfn 0 hpos).2
        rw [Addr.add_mid] at this
        exact World.block_lt_of_cell? w _ this
      · simp only [List.length_map, List.length_range] at hi
        simp only [List.map_map, List.getElem_map, List.getElem_range, Function.comp]
        have := (hfn i hi).2
        rw [Addr.add_mid] at this
        rw [Nat.mul_one]
        exact rd_one this
    · intro e he'
      obtain ⟨i, hi, rfl⟩ := List.mem_map.1 he'
      exact (hfn i (by simpa using hi)).1
end
end Go.Proofs.Ytodbmgafejclmaa.Base
