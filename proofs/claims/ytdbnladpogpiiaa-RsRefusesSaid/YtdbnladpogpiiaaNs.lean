/-
  Arguments that are rows of rows of bytes, opened; a law's post behind a call below which nothing has turned.
-/
import Derived.Test.YtdbnladpogpiiaaKp
import Derived.ProofKit
import Derived.OpenShut
import Derived.ChangeOld
import Derived.Deep.Slices
namespace Go.Proofs.Ytdbnladpogpiiaa.Ns
set_option linter.unusedSimpArgs false
set_option linter.unusedVariables false
open Go.ChangeShapes Go.WideShapes Go.ChangeAt Go.RowKit Go.Deep Go.Proofs.YtdbnladpogpiiaaW.PrintWords
open Go.Proofs.Ytdbnladpogpiiaa.Fld Go.Proofs.Ytdbnladpogpiiaa.Pl
theorem below_trodAll {H : Type} {enc : TypeId × Value → H} {P : Program} (hl : laidOutB P = true) {W W' : World} (hb : Below W.heap.size W W') :
    ∀ {ts : List TypeId} {vs : List Value} {ds : List (DataW H)} {ps : List MemPlace}, (∀ t ∈ ts, P.readableRec t = true ∧ t < P.types.size) → (∀ x ∈ ps, x.block < W.heap.size) →
      DataW.TrodAll enc P W 0 (fun _ => true) true ts vs ds ps → DataW.TrodAll enc P W' 0 (fun b => decide (b < W.heap.size)) true ts vs ds ps
  | [], [], [], _, _, _, h => h
  | t :: ts, v :: vs, d :: ds, ps, hr, hlt, ⟨p, q, h1, h2, e⟩ => by
    subst e
    exact ⟨p, q, Below.trod hl (hr t (by simp)).1 (hr t (by simp)).2 h1 hb (fun x hx => hlt x (by simp [hx])), below_trodAll hl hb (fun t' ht' => hr t' (by simp [ht'])) (fun x hx => hlt x (by simp [hx])) h2, rfl⟩
  | [], [], _ :: _, _, _, _, h => h.elim
  | [], _ :: _, _, _, _, _, h => by cases ‹List (DataW H)› <;> exact h.elim
  | _ :: _, [], _, _, _, _, h => by cases ‹List (DataW H)› <;> exact h.elim
  | _ :: _, _ :: _, [], _, _, _, h => h.elim
/-- THE POST OF A LAW. -/
theorem law_post {H : Type} {enc : TypeId × Value → H} {P : Program} {f : Func} {s : ChangeSpec} {W W' : World} {args : Array Value} {ds gs : List (DataW H)} {before : List MemPlace}
    (hl : laidOutB P = true) (hr : ∀ t ∈ f.params.toList, P.readableRec t = true ∧ t < P.types.size) {tb : TypeId} (hres : f.resultTypes = #[tb]) (htb : P.underlying tb = some .bool)
    (hvars : s.vars = []) (hW : DataW.Whole enc P f.params.toList s.vars false W args.toList ds gs before)
    (hfn : s.fn H (ds ++ gs) = { results := [.lit (.bool true)], args := ds }) (hb : Below W.heap.size W W') :
    s.post enc P f false true false false W args (.bool true) W' := by
  have hW' := hW
  obtain ⟨p, q, hA, hV, rfl, hfz, hnd⟩ := hW
  rw [hvars] at hV
  obtain ⟨rfl, rfl⟩ := trodVars_none hV
  refine ⟨ds, [], p ++ [], [], p, [], hW', ?_, ?_, ?_, hb.frame _, fun h => by cases h⟩
  · rw [hres, hfn]
    exact trodAll_mk1 (shut_bool htb _)
  · rw [hfn]
    exact below_trodAll hl hb hr (fun x hx => by simpa using hW'.lt x (by simpa using hx)) hA
  · rw [hfn, hvars]
    exact rfl
theorem i64_of {n : Int} (h : (Lit.int .i64 n).wf = true) : -9223372036854775808 ≤ n ∧ n ≤ 9223372036854775807 := by simpa [Lit.wf, IntKind.min, IntKind.max, IntKind.signed, IntKind.bits] using h
theorem u8_of {n : Int} (h : (Lit.int .u8 n).wf = true) : Byt n := by
  have h2 : 0 ≤ n ∧ n ≤ 255 := by simpa [Lit.wf, IntKind.min, IntKind.max, IntKind.signed, IntKind.bits] using h
  exact ⟨h2.1, by omega⟩
section
variable {H : Type} {enc : TypeId × Value → H} {w : World} {base : Nat} {spare : Nat → Bool} {held : Bool}
theorem open_ints_C {k : IntKind} {t e : TypeId} (ht : Try.prog.underlying t = some (.slice e)) (he : Try.prog.underlying e = some (.int k)) (hc1 : Try.prog.cellsOf e = 1) {v : Value} {fuel : Nat} {x : DataW H × List MemPlace} (h : DataW.trod enc Try.prog w base spare held fuel t [v] = some x) :
    ∃ (A : Option Addr) (c : Nat) (r : List Int), v = .slice A r.length c ∧ r.length ≤ c ∧ c ≤ maxLen ∧ Kd.C (Kd.int k) w A r.length r ∧ ∀ n ∈ r, (Lit.int k n).wf = true := by
  rcases open_ints ht he hc1 h with ⟨hcs, _⟩ | ⟨a, l, c, zs, hcs, _, hl, hm, hz, _, hcell, hwz⟩
  · have hv : v = .slice none 0 0 := by simpa using hcs
    subst hv
    exact ⟨none, 0, [], rfl, Nat.le_refl _, Nat.zero_le _, Kd.C_nil _ _, by simp⟩
  · have hv : v = .slice (some a) l c := by simpa using hcs
    subst hv
    have hlz : l ≤ zs.length := by rw [hz]; split <;> omega
    have hlen : (zs.take l).length = l := by rw [List.length_take]; omega
    refine ⟨some a, c, zs.take l, by rw [hlen], by rw [hlen]; exact hl, hm, ?_, fun n hn => hwz n (List.mem_of_mem_take hn)⟩
    have hmx : maxLen = 9223372036854775807 := rfl
    refine ⟨rfl, by rw [hlen]; omega, fun _ => ⟨a, rfl, fun j p hj => ⟨[.int k p], rfl, rfl, fun q u hu => ?_⟩⟩⟩
    match q, hu with
    | 0, hu =>
      simp only [List.getElem?_cons_zero, Option.some.injEq] at hu
      subst hu
      have hjl : j < l := by have := (List.getElem?_eq_some_iff.1 hj).1; omega
      have hcl := hcell j (by omega)
      rw [List.getElem?_take, if_pos hjl] at hj
      rw [show j * (Kd.int k).sz + 0 = j from Nat.mul_one j, hcl, List.getD_eq_getElem?_getD, hj]
      rfl
set_option maxRecDepth 100000 in
/-- an argument that is a row of bytes, or of numbers -/
theorem open_row {r : Reach} {b0 : Nat} {k : IntKind} {t e : TypeId} (ht : Try.prog.underlying t = some (.slice e)) (he : Try.prog.underlying e = some (.int k)) (hc1 : Try.prog.cellsOf e = 1) {v : Value} {d : DataW H} {p : List MemPlace} (hv : Value.okWide Try.prog w r b0 t v)
    (h : DataW.Trod enc Try.prog w base spare held t v d p) :
    ∃ (A : Option Addr) (c : Nat) (r : List Int), v = .slice A r.length c ∧ r.length ≤ c ∧ c ≤ maxLen ∧ Kd.C (Kd.int k) w A r.length r ∧ ∀ n ∈ r, (Lit.int k n).wf = true := by
  obtain ⟨a, len, cap, rfl⟩ := okWide_slice ht hv
  obtain ⟨fuel, hf⟩ := h
  exact open_ints_C ht he hc1 hf
set_option maxRecDepth 100000 in
/-- an argument that is rows of bytes -/
theorem open_rows {r : Reach} {b0 : Nat} {v : Value} {d : DataW H} {p : List MemPlace} (hv : Value.okWide Try.prog w r b0 25 v)
    (h : DataW.Trod enc Try.prog w base spare held 25 v d p) :
    ∃ (A : Option Addr) (c : Nat) (L : List (List Int)), v = .slice A L.length c ∧ L.length ≤ c ∧ c ≤ maxLen ∧ Kd.C (Kd.slice 5 (Kd.int .u8)) w A L.length L ∧ ∀ r ∈ L, Bytes r := by
  obtain ⟨a, len, cap, rfl⟩ := okWide_slice Try.underlying25 hv
  obtain ⟨fuel, hf⟩ := h
  have hmx : maxLen = 9223372036854775807 := rfl
  rcases open_slice1 Try.underlying25 (by kernel_rfl) hf with ⟨h0, _⟩ | ⟨ad, len', cap', m, n, V, D, Pl, hcs, _, hl, hm, hmm, _, hi⟩
  · have h0' : a = none ∧ len = 0 ∧ cap = 0 := by simpa [Value.cells] using h0
    obtain ⟨rfl, rfl, rfl⟩ := h0'
    exact ⟨none, 0, [], rfl, Nat.le_refl _, Nat.zero_le _, Kd.C_nil _ _, by simp⟩
  · have hcs' : a = some ad ∧ len = len' ∧ cap = cap' := by simpa [Value.cells] using hcs
    obtain ⟨rfl, rfl, rfl⟩ := hcs'
    have hlm : len ≤ m := by rw [hmm]; split <;> omega
    have hex : ∀ i, i < len → ∃ r : List Int, (∃ A c, V i = .slice A r.length c ∧ r.length ≤ c ∧ Kd.C (Kd.int .u8) w A r.length r) ∧ Bytes r := fun i hil => by
      obtain ⟨_, h2⟩ := hi i (by omega)
      obtain ⟨A, c, r, e1, e2, _, e3, e4⟩ := open_ints_C Try.underlying22 Try.underlying5 (by kernel_rfl) h2
      exact ⟨r, ⟨A, c, e1, e2, e3⟩, fun x hx => u8_of (e4 x hx)⟩
    obtain ⟨f, hfn⟩ : ∃ f : Nat → List Int, ∀ i, i < len → (∃ A c, V i = .slice A (f i).length c ∧ (f i).length ≤ c ∧ Kd.C (Kd.int .u8) w A (f i).length (f i)) ∧ Bytes (f i) := by
      refine ⟨fun i => if h : i < len then Classical.choose (hex i h) else [], fun i hi => ?_⟩
      simp only [dif_pos hi]
      exact Classical.choose_spec (hex i hi)
    have hL : ((List.range len).map f).length = len := by simp
    refine ⟨some ad, cap, (List.range len).map f, by rw [hL], by rw [hL]; exact hl, hm, ?_, fun r hr => ?_⟩
    · refine ⟨rfl, by rw [hL]; omega, fun _ => ⟨ad, rfl, fun j p hj => ?_⟩⟩
      have hjl : j < len := by have := (List.getElem?_eq_some_iff.1 hj).1; omega
      rw [List.getElem?_map, List.getElem?_range hjl] at hj
      simp only [Option.map_some, Option.some.injEq] at hj
      subst hj
      obtain ⟨A, c, e1, e2, e3⟩ := (hfn j hjl).1
      refine ⟨[V j], rfl, ⟨A, c, by rw [e1], e2, e3⟩, fun q u hu => ?_⟩
      match q, hu with
      | 0, hu =>
        simp only [List.getElem?_cons_zero, Option.some.injEq] at hu
        subst hu
        rw [show j * (Kd.slice 5 (Kd.int .u8)).sz + 0 = j from Nat.mul_one j]
        exact (hi j (by omega)).1
    · obtain ⟨i, hir, rfl⟩ := List.mem_map.1 hr
      exact (hfn i (List.mem_range.1 hir)).2
end
end Go.Proofs.Ytdbnladpogpiiaa.Ns
