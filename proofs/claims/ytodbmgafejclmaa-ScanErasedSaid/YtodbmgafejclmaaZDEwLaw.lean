/-
  ScanErased: for every input the law returns true, and each argument reads afterwards as it read before: of a superblock of which a die was erased, or is being erased, nothing is told that was not told ahead.
-/
import Derived.Test.YtodbmgafejclmaaZD54
import Derived.Test.YtodbmgafejclmaaRows
namespace Go.Proofs.Ytodbmgafejclmaa.Base
set_option linter.unusedSimpArgs false
set_option linter.unusedVariables false
open Go.ChangeShapes Go.WideShapes Go.ChangeAt Go.RowKit Go.Deep
section
variable {H : Type} {enc : TypeId × Value → H} {w : World} {base : Nat} {spare : Nat → Bool} {held : Bool}
/-- an argument that is a slice of integers -/
theorem open_kints {P : Program} {t e : TypeId} {k : IntKind} (ht : P.underlying t = some (.slice e)) (he : P.underlying e = some (.int k)) (hc : P.cellsOf e = 1) {r : Reach} {b0 : Nat} {v : Value} {d : DataW H} {p : List MemPlace} (hv : Value.okWide P w r b0 t v)
    (h : DataW.Trod enc P w 0 (fun _ => true) true t v d p) :
    ∃ (A : Option Addr) (es : List Int) (c : Nat), v = .slice A es.length c ∧ es.length ≤ c ∧ c ≤ maxLen ∧ Sl w 0 w.heap.size 1 A (es.map fun x => #[.int k x]) ∧ ∀ e ∈ es, (Lit.int k e).wf = true := by
  obtain ⟨a, len, cap, rfl⟩ := okWide_slice ht hv
  obtain ⟨fuel, hf⟩ := h
  rcases open_slice ht hf with ⟨h0, _⟩ | ⟨ad, len', cap', m, n, D, Pl, hcs, _, hl, hmx, hm, _, hi⟩
  · have h0' : a = none ∧ len = 0 ∧ cap = 0 := by simpa [Value.cells] using h0
    obtain ⟨rfl, rfl, rfl⟩ := h0'
    exact ⟨none, [], 0, rfl, Nat.le_refl _, by unfold maxLen; omega, Sl.nil, by simp⟩
  · have hcs' : a = some ad ∧ len = len' ∧ cap = cap' := by simpa [Value.cells] using hcs
    obtain ⟨rfl, rfl, rfl⟩ := hcs'
    rw [hc] at hi
    simp only [if_true] at hm
    have hex : ∀ i, i < len → ∃ e : Int, (Lit.int k e).wf = true ∧ w.cell? (ad.add i) = some (.int k e) := by
      intro i hil
      obtain ⟨cs', hcl, ht'⟩ := hi i (by omega)
      obtain ⟨_, hcl2, hat⟩ := World.cells?_some hcl
      obtain ⟨x, rfl, _⟩ := DataW.trod_int he ht'
      refine ⟨x, trod_int_wf he ht', ?_⟩
      have := hat 0 (by omega)
      rw [Go.Deep.add_add] at this
      simpa using this
    have : ∃ f : Nat → Int, ∀ i, i < len → (Lit.int k (f i)).wf = true ∧ w.cell? (ad.add i) = some (.int k (f i)) := by
      refine ⟨fun i => if h : i < len then Classical.choose (hex i h) else 0, fun i hi => ?_⟩
      simp only [dif_pos hi]
      exact Classical.choose_spec (hex i hi)
    obtain ⟨f, hfn⟩ := this
    refine ⟨some ad, (List.range len).map f, cap, by simp, by simpa using hl, hmx, ?_, ?_⟩
    · intro hne
      have hpos : 0 < len := by
        rcases Nat.eq_zero_or_pos len with h0 | h0
        · subst h0; simp at hne
        · exact h0
      have hsp : ad.spot = none := by
        have := (hfn 0 hpos).2
        cases hs : ad.spot with
        | none => rfl
        | some s =>
          exfalso
          have h00 : ad.add 0 = ad := by simp [Addr.add]
          rw [h00] at this
          unfold World.cell? at this
          rw [hs] at this
          split at this <;> simp at this
      obtain ⟨b, o, sp⟩ := ad
      subst hsp
      refine ⟨b, o, rfl, Nat.zero_le _, ?_, fun i hi => ?_⟩
      · have := (hfn 0 hpos).2
        rw [Addr.add_mid] at this
        exact World.block_lt_of_cell? w _ this
      · simp only [List.length_map, List.length_range] at hi
        simp only [List.map_map, List.getElem_map, List.getElem_range, Function.comp]
        have := (hfn i hi).2
        rw [Addr.add_mid] at this
        rw [Nat.mul_one]
        exact rd_one this
    · intro e he'
      obtain ⟨i, hi, rfl⟩ := List.mem_map.1 he'
      exact (hfn i (by simpa using hi)).1
end
end Go.Proofs.Ytodbmgafejclmaa.Base
namespace Go.Proofs.Ytodbmgafejclmaa.Base
set_option linter.unusedSimpArgs false
set_option linter.unusedVariables false
open Go.ChangeShapes Go.WideShapes Go.ChangeAt Go.RowKit Go.Deep
section
variable {H : Type} {enc : TypeId × Value → H} {w : World} {base : Nat} {spare : Nat → Bool} {held : Bool}
/-- an argument that is a slice of truths -/
theorem open_kbools {P : Program} {t e : TypeId} (ht : P.underlying t = some (.slice e)) (he : P.underlying e = some .bool) (hc : P.cellsOf e = 1) {r : Reach} {b0 : Nat} {v : Value} {d : DataW H} {p : List MemPlace} (hv : Value.okWide P w r b0 t v)
    (h : DataW.Trod enc P w 0 (fun _ => true) true t v d p) :
    ∃ (A : Option Addr) (es : List Bool) (c : Nat), v = .slice A es.length c ∧ es.length ≤ c ∧ c ≤ maxLen ∧ Sl w 0 w.heap.size 1 A (es.map fun x => #[.bool x]) := by
  obtain ⟨a, len, cap, rfl⟩ := okWide_slice ht hv
  obtain ⟨fuel, hf⟩ := h
  rcases open_slice ht hf with ⟨h0, _⟩ | ⟨ad, len', cap', m, n, D, Pl, hcs, _, hl, hmx, hm, _, hi⟩
  · have h0' : a = none ∧ len = 0 ∧ cap = 0 := by simpa [Value.cells] using h0
    obtain ⟨rfl, rfl, rfl⟩ := h0'
    exact ⟨none, [], 0, rfl, Nat.le_refl _, by unfold maxLen; omega, Sl.nil⟩
  · have hcs' : a = some ad ∧ len = len' ∧ cap = cap' := by simpa [Value.cells] using hcs
    obtain ⟨rfl, rfl, rfl⟩ := hcs'
    rw [hc] at hi
    simp only [if_true] at hm
    have hex : ∀ i, i < len → ∃ e : Bool, w.cell? (ad.add i) = some (.bool e) := by
      intro i hil
      obtain ⟨cs', hcl, ht'⟩ := hi i (by omega)
      obtain ⟨_, hcl2, hat⟩ := World.cells?_some hcl
      obtain ⟨x, rfl, _⟩ := DataW.trod_bool he ht'
      refine ⟨x, ?_⟩
      have := hat 0 (by omega)
      rw [Go.Deep.add_add] at this
      simpa using this
    have : ∃ f : Nat → Bool, ∀ i, i < len → w.cell? (ad.add i) = some (.bool (f i)) := by
      refine ⟨fun i => if h : i < len then Classical.choose (hex i h) else false, fun i hi => ?_⟩
      simp only [dif_pos hi]
      exact Classical.choose_spec (hex i hi)
    obtain ⟨f, hfn⟩ := this
    refine ⟨some ad, (List.range len).map f, cap, by simp, by simpa using hl, hmx, ?_⟩
    · intro hne
      have hpos : 0 < len := by
        rcases Nat.eq_zero_or_pos len with h0 | h0
        · subst h0; simp at hne
        · exact h0
      have hsp : ad.spot = none := by
        have := hfn 0 hpos
        cases hs : ad.spot with
        | none => rfl
        | some s =>
          exfalso
          have h00 : ad.add 0 = ad := by simp [Addr.add]
          rw [h00] at this
          unfold World.cell? at this
          rw [hs] at this
          split at this <;> simp at this
      obtain ⟨b, o, sp⟩ := ad
      subst hsp
      refine ⟨b, o, rfl, Nat.zero_le _, ?_, fun i hi => ?_⟩
      · have := hfn 0 hpos
        rw [Addr.add_mid] at this
        exact World.block_lt_of_cell? w _ this
      · simp only [List.length_map, List.length_range] at hi
        simp only [List.map_map, List.getElem_map, List.getElem_range, Function.comp]
        have := hfn i hi
        rw [Addr.add_mid] at this
        rw [Nat.mul_one]
        exact rd_one this
end
end Go.Proofs.Ytodbmgafejclmaa.Base
namespace Go.Proofs.Ytodbmgafejclmaa.scanErased
open Go.Proofs.Ytodbmgafejclmaa.Base Go.ChangeShapes Go.WideShapes Go.ChangeAt Go.RowKit
theorem own : ownKnob Try.prog.godebug = none := by kernel_rfl
theorem laid : laidOutB Try.prog = true := by kernel_rfl
set_option maxRecDepth 100000 in
theorem contract (H : Type) (enc : TypeId × Value → H) (W : World) (base : Nat) (args : Array Value) (ds gs : List (DataW H)) (before : List MemPlace)
    (hval : ∀ (j : Nat) t v, Try.f4.params[j]? = some t → args[j]? = some v → Value.okWide Try.prog W .any base t v)
    (hW : DataW.Whole enc Try.prog Try.f4.params.toList Rows.scanErasedSpec.vars false W args.toList ds gs before) :
    Calls Try.prog 4 args W fun e W' => ∃ v, e = .returned v ∧ Rows.scanErasedSpec.post enc Try.prog Try.f4 false true false false W args v W' := by
  have hW' := hW
  obtain ⟨p, q, hA0, hV, rfl, hfz, hnd⟩ := hW
  have hA : DataW.TrodAll enc Try.prog W 0 (fun _ => true) true Try.f4.params.toList args.toList ds p := hA0
  rw [Try.params4] at hA hval
  obtain ⟨v0, vs0, d0, ds0, p0, q0, hargs, rfl, rfl, h0, r0⟩ := trodAll_cons hA
  obtain ⟨v1, vs1, d1, ds1, p1, q1, rfl, rfl, rfl, h1, r1⟩ := trodAll_cons r0
  obtain ⟨v2, vs2, d2, ds2, p2, q2, rfl, rfl, rfl, h2, r2⟩ := trodAll_cons r1
  obtain ⟨v3, vs3, d3, ds3, p3, q3, rfl, rfl, rfl, h3, r3⟩ := trodAll_cons r2
  obtain ⟨v4, vs4, d4, ds4, p4, q4, rfl, rfl, rfl, h4, r4⟩ := trodAll_cons r3
  obtain ⟨v5, vs5, d5, ds5, p5, q5, rfl, rfl, rfl, h5, r5⟩ := trodAll_cons r4
  obtain ⟨v6, vs6, d6, ds6, p6, q6, rfl, rfl, rfl, h6, r6⟩ := trodAll_cons r5
  obtain ⟨rfl, rfl, rfl⟩ := trodAll_nil r6
  obtain rfl : args = #[v0, v1, v2, v3, v4, v5, v6] := by cases args; simp_all
  obtain ⟨rfl, rfl⟩ := trodVars_none hV
  obtain ⟨a0, rfl, rfl, rfl, w0⟩ := open_int Try.underlying3 (hval 0 _ v0 rfl rfl) h0
  obtain ⟨a1, rfl, rfl, rfl, w1⟩ := open_int Try.underlying3 (hval 1 _ v1 rfl rfl) h1
  obtain ⟨A2, es2, c2, rfl, hc2, hm2, hs2, hwf2⟩ := open_ents (hval 2 _ v2 rfl rfl) h2
  obtain ⟨a3, rfl, rfl, rfl, w3⟩ := open_int Try.underlying3 (hval 3 _ v3 rfl rfl) h3
  obtain ⟨A4, es4, c4, rfl, hc4, hm4, hs4, hwf4⟩ := open_kints Try.underlying24 Try.underlying5 (by kernel_rfl) (hval 4 _ v4 rfl rfl) h4
  obtain ⟨A5, es5, c5, rfl, hc5, hm5, hs5⟩ := open_kbools Try.underlying41 Try.underlying4 (by kernel_rfl) (hval 5 _ v5 rfl rfl) h5
  obtain ⟨a6, rfl, rfl, rfl, w6⟩ := open_int Try.underlying3 (hval 6 _ v6 rfl rfl) h6
  refine (erased_walk a0 a1 a3 a6 A2 A4 A5 c2 c4 c5 es2.length es4.length es5.length es2 es4 es5 W (i64_of w0) (i64_of w1) (i64_of w3) rfl hc2 hm2 hs2 hwf2 rfl hc4 hm4 hs4 rfl hc5 hm5 hs5).mono fun e W' ⟨he, hb⟩ => ?_
  subst he
  exact ⟨_, rfl, law_post laid (by rw [Try.params4]; simp only [List.mem_cons, List.not_mem_nil, or_false]; rintro t (rfl | rfl | rfl | rfl | rfl | rfl | rfl) <;> exact ⟨by kernel_rfl, of_decide_eq_true (by kernel_rfl)⟩) (by kernel_rfl) Try.underlying4 rfl hW' rfl hb⟩
set_option maxRecDepth 100000 in
theorem lifted (os : Os) (started : os.Started) (H : Type) (enc : TypeId × Value → H) :
    ReturnsInHanded {} Try.checked os 4 .any (Rows.scanErasedSpec.pre6 enc Try.prog Try.f4 Rows.scanErasedRow.domain false) (Rows.scanErasedSpec.post enc Try.prog Try.f4 false true false false) := by
  refine returnsInHanded_of_change (C := Try.checked) own started (by kernel_rfl) Try.func4
    (ChangeSpec.witness6 (enc := enc) (C := Try.checked) false ⟨#[], #[.int .i64 0, .int .i64 0, .slice none 0 0, .int .i64 0, .slice none 0 0, .slice none 0 0, .int .i64 0], []⟩ 8 (by kernel_rfl) (by kernel_rfl) (by kernel_rfl) (by kernel_rfl)) ?_
  intro W base args ds gs before hval hW _ _
  exact contract H enc W base args ds gs before hval hW
theorem proved : Rows.ScanErasedSaid :=
  OpenClaim.holds_of_wide 4 Try.f4 rfl rfl rfl rfl rfl rfl rfl ⟨rfl, rfl, rfl, rfl, rfl⟩ rfl rfl rfl rfl rfl (by kernel_rfl) Try.func4 (by kernel_rfl)
    (of_decide_eq_true (by kernel_rfl)) (by unfold Func.isWrapper; first | (rw [if_pos (by decide +kernel)]; kernel_rfl) | (rw [if_neg (by decide +kernel)]; exact ⟨rfl, rfl⟩))
    (fun os started H enc _ => lifted os started H enc)
#print axioms proved
end Go.Proofs.Ytodbmgafejclmaa.scanErased
