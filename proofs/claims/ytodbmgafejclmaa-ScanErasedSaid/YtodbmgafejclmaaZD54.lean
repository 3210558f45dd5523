/-
  Parts of a proof, laid together by a program of mine (pack.py): Lw.
-/
import Derived.ProofKit
import Derived.OpenShut
import Derived.Carry
import Derived.Deep.Slices
import Derived.ChangeSame
import Derived.Test.YtodbmgafejclmaaZD53
namespace Go.Proofs.Ytodbmgafejclmaa.Base
set_option linter.unusedSimpArgs false
set_option linter.unusedVariables false
open Go.ChangeShapes Go.WideShapes Go.ChangeAt Go.RowKit Go.Deep
theorem below_trodAll {H : Type} {enc : TypeId × Value → H} {P : Program} (hl : laidOutB P = true) {W W' : World} (hb : Below W.heap.size W W') :
    ∀ {ts : List TypeId} {vs : List Value} {ds : List (DataW H)} {ps : List MemPlace}, (∀ t ∈ ts, P.readableRec t = true ∧ t < P.types.size) → (∀ x ∈ ps, x.block < W.heap.size) →
      DataW.TrodAll enc P W 0 (fun _ => true) true ts vs ds ps → DataW.TrodAll enc P W' 0 (fun b => decide (b < W.heap.size)) true ts vs ds ps
  | [], [], [], _, _, _, h => h
  | t :: ts, v :: vs, d :: ds, ps, hr, hlt, ⟨p, q, h1, h2, e⟩ => by
    subst e
    exact ⟨p, q, Below.trod hl (hr t (by simp)).1 (hr t (by simp)).2 h1 hb (fun x hx => hlt x (by simp [hx])), below_trodAll hl hb (fun t' ht' => hr t' (by simp [ht'])) (fun x hx => hlt x (by simp [hx])) h2, rfl⟩
  | [], [], _ :: _, _, _, _, h => h.elim
  | [], _ :: _, _, _, _, _, h => by cases ‹List (DataW H)› <;> exact h.elim
  | _ :: _, [], _, _, _, _, h => by cases ‹List (DataW H)› <;> exact h.elim
  | _ :: _, _ :: _, [], _, _, _, h => h.elim
/-- THE POST OF A LAW. -/
theorem law_post {H : Type} {enc : TypeId × Value → H} {P : Program} {f : Func} {s : ChangeSpec} {W W' : World} {args : Array Value} {ds gs : List (DataW H)} {before : List MemPlace}
    (hl : laidOutB P = true) (hr : ∀ t ∈ f.params.toList, P.readableRec t = true ∧ t < P.types.size) {tb : TypeId} (hres : f.resultTypes = #[tb]) (htb : P.underlying tb = some .bool)
    (hvars : s.vars = []) (hW : DataW.Whole enc P f.params.toList s.vars false W args.toList ds gs before)
    (hfn : s.fn H (ds ++ gs) = { results := [.lit (.bool true)], args := ds }) (hb : Below W.heap.size W W') :
    s.post enc P f false true false false W args (.bool true) W' := by
  have hW' := hW
  obtain ⟨p, q, hA, hV, rfl, hfz, hnd⟩ := hW
  rw [hvars] at hV
  obtain ⟨rfl, rfl⟩ := trodVars_none hV
  refine ⟨ds, [], p ++ [], [], p, [], hW', ?_, ?_, ?_, hb.frame _, fun h => by cases h⟩
  · rw [hres, hfn]
    exact trodAll_mk1 (shut_bool htb _)
  · rw [hfn]
    exact below_trodAll hl hb hr (fun x hx => by simpa using hW'.lt x (by simpa using hx)) hA
  · rw [hfn, hvars]
    exact rfl
def Ent.of (cs : List Value) : Ent := ⟨intOf (cs.getD 0 undef), intOf (cs.getD 1 undef), intOf (cs.getD 2 undef), fun i => intOf (cs.getD (3 + i.1) undef)⟩
theorem i64_of {n : Int} (h : (Lit.int .i64 n).wf = true) : I64 n := by simpa [I64, Lit.wf, IntKind.min, IntKind.max, IntKind.signed, IntKind.bits] using h
theorem u8_of {n : Int} (h : (Lit.int .u8 n).wf = true) : 0 ≤ n ∧ n < 256 := by
  have : 0 ≤ n ∧ n ≤ 255 := by simpa [Lit.wf, IntKind.min, IntKind.max, IntKind.signed, IntKind.bits] using h
  omega
theorem trod_int_wf {H : Type} {enc : TypeId × Value → H} {P : Program} {w : World} {base : Nat} {spare : Nat → Bool} {held : Bool} {fuel : Nat} {t : TypeId} {k : IntKind} {n : Int} {x : DataW H × List MemPlace}
    (ht : P.underlying t = some (.int k)) (h : DataW.trod enc P w base spare held fuel t [.int k n] = some x) : (Lit.int k n).wf = true := by
  cases fuel with
  | zero => simp [DataW.trod] at h
  | succ m =>
    unfold DataW.trod at h
    rw [ht] at h
    simp at h
    exact h.1
section
variable {H : Type} {enc : TypeId × Value → H} {w : World} {base : Nat} {spare : Nat → Bool} {held : Bool}
set_option maxRecDepth 100000 in
theorem ent_trod {n : Nat} {cs : List Value} {y : DataW H × List MemPlace} (h : DataW.trod enc Try.prog w base spare held n 54 cs = some y) : cs = (Ent.of cs).cells ∧ (Ent.of cs).Wf := by
  obtain ⟨xs, m, rfl, _, hlen, hxl, hf⟩ := DataW.trod_struct Try.underlying54 h
  have hc : Try.prog.cellsOf 54 = 19 := by kernel_rfl
  have hci : Try.prog.cellsOf 3 = 1 := by kernel_rfl
  have hcd : Try.prog.cellsOf 52 = 16 := by kernel_rfl
  have hcb : Try.prog.cellsOf 5 = 1 := by kernel_rfl
  rw [hc] at hlen
  have hx4 : xs.length = 4 := hxl
  have g0 : DataW.trod enc Try.prog w base spare held m 3 ((cs.drop 0).take (Try.prog.cellsOf 3)) = xs[0]? := hf 0 _ rfl
  have g1 : DataW.trod enc Try.prog w base spare held m 3 ((cs.drop 1).take (Try.prog.cellsOf 3)) = xs[1]? := hf 1 _ rfl
  have g2 : DataW.trod enc Try.prog w base spare held m 3 ((cs.drop 2).take (Try.prog.cellsOf 3)) = xs[2]? := hf 2 _ rfl
  have g3 : DataW.trod enc Try.prog w base spare held m 52 ((cs.drop 3).take (Try.prog.cellsOf 52)) = xs[3]? := hf 3 _ rfl
  rw [hci] at g0 g1 g2
  rw [hcd] at g3
  rw [List.getElem?_eq_getElem (by omega)] at g0 g1 g2 g3
  obtain ⟨k, e0, _⟩ := DataW.trod_int Try.underlying3 g0
  obtain ⟨l, e1, _⟩ := DataW.trod_int Try.underlying3 g1
  obtain ⟨q, e2, _⟩ := DataW.trod_int Try.underlying3 g2
  obtain ⟨ys, m', rfl, _, _, hyl, hy⟩ := DataW.trod_array Try.underlying52 g3
  have at_of : ∀ (j : Nat) (v : Value), (cs.drop j).take 1 = [v] → cs[j]? = some v := by
    intro j v h
    have := congrArg (fun l => l[0]?) h
    simpa using this
  have w0 := trod_int_wf Try.underlying3 (e0 ▸ g0)
  have w1 := trod_int_wf Try.underlying3 (e1 ▸ g1)
  have w2 := trod_int_wf Try.underlying3 (e2 ▸ g2)
  have c0 := at_of _ _ e0
  have c1 := at_of _ _ e1
  have c2 := at_of _ _ e2
  have hd : ∀ i : Nat, i < 16 → ∃ b : Int, cs[3 + i]? = some (.int .u8 b) ∧ 0 ≤ b ∧ b < 256 := by
    intro i hi
    have := hy i hi
    rw [hcb, List.getElem?_eq_getElem (by omega)] at this
    obtain ⟨b, eb, _⟩ := DataW.trod_int Try.underlying5 this
    have wb := u8_of (trod_int_wf Try.underlying5 (eb ▸ this))
    refine ⟨b, ?_, wb⟩
    have h2 := congrArg (fun l => l[0]?) eb
    simp only [List.getElem?_cons_zero] at h2
    rw [List.getElem?_take, if_pos (by omega), List.getElem?_drop, List.getElem?_take, if_pos (by omega), List.getElem?_drop] at h2
    rw [← h2]
    congr 1
    omega
  have gd : ∀ (j : Nat) (v : Value), cs[j]? = some v → cs.getD j undef = v := fun j v h => by simp [List.getD, h]
  constructor
  · apply List.ext_getElem?
    intro j
    unfold Ent.cells Ent.data Ent.of
    match j with
    | 0 => rw [List.getElem?_cons_zero, gd 0 _ c0]; exact c0
    | 1 => rw [List.getElem?_cons_succ, List.getElem?_cons_zero, gd 1 _ c1]; exact c1
    | 2 => rw [List.getElem?_cons_succ, List.getElem?_cons_succ, List.getElem?_cons_zero, gd 2 _ c2]; exact c2
    | j + 3 =>
      rw [List.getElem?_cons_succ, List.getElem?_cons_succ, List.getElem?_cons_succ, List.getElem?_ofFn]
      by_cases hj : j < 16
      · obtain ⟨b, hb, _⟩ := hd j hj
        rw [dif_pos hj]
        simp only
        rw [gd _ _ hb, Nat.add_comm j 3, hb]
        rfl
      · rw [dif_neg hj, List.getElem?_eq_none (by omega)]
  · refine ⟨?_, ?_, ?_, ?_⟩
    · show I64 (intOf _); rw [gd 0 _ c0]; exact i64_of w0
    · show I64 (intOf _); rw [gd 1 _ c1]; exact i64_of w1
    · show I64 (intOf _); rw [gd 2 _ c2]; exact i64_of w2
    · intro i
      obtain ⟨b, hb, h⟩ := hd i.1 i.2
      show 0 ≤ intOf _ ∧ intOf _ < 256
      rw [gd _ _ hb]; exact h
set_option maxRecDepth 100000 in
/-- an argument of this type -/
theorem open_ents {r : Reach} {b0 : Nat} {v : Value} {d : DataW H} {p : List MemPlace} (hv : Value.okWide Try.prog w r b0 22 v)
    (h : DataW.Trod enc Try.prog w 0 (fun _ => true) true 22 v d p) :
    ∃ (A : Option Addr) (es : List Ent) (c : Nat), v = .slice A es.length c ∧ es.length ≤ c ∧ c ≤ maxLen ∧ Sl w 0 w.heap.size 19 A (es.map Ent.arr) ∧ ∀ e ∈ es, e.Wf := by
  obtain ⟨a, len, cap, rfl⟩ := okWide_slice Try.underlying22 hv
  obtain ⟨fuel, hf⟩ := h
  rcases open_slice Try.underlying22 hf with ⟨h0, _⟩ | ⟨ad, len', cap', m, n, D, Pl, hcs, _, hl, hmx, hm, _, hi⟩
  · have h0' : a = none ∧ len = 0 ∧ cap = 0 := by simpa [Value.cells] using h0
    obtain ⟨rfl, rfl, rfl⟩ := h0'
    exact ⟨none, [], 0, rfl, Nat.le_refl _, by unfold maxLen; omega, Sl.nil, by simp⟩
  · have hcs' : a = some ad ∧ len = len' ∧ cap = cap' := by simpa [Value.cells] using hcs
    obtain ⟨rfl, rfl, rfl⟩ := hcs'
    have hc : Try.prog.cellsOf 54 = 19 := by kernel_rfl
    rw [hc] at hi
    simp only [if_true] at hm
    have hex : ∀ i, i < len → ∃ e : Ent, e.Wf ∧ (∀ j, j < 19 → w.cell? (ad.add (i * 19 + j)) = e.arr[j]?) := by
      intro i hil
      obtain ⟨cs', hcl, ht⟩ := hi i (by omega)
      obtain ⟨_, hcl2, hat⟩ := World.cells?_some hcl
      obtain ⟨he, hw⟩ := ent_trod ht
      refine ⟨Ent.of cs', hw, fun j hj => ?_⟩
      rw [← Go.Deep.add_add, hat j hj]
      have : (Ent.of cs').arr[j]? = (Ent.of cs').cells[j]? := by simp [Ent.arr]
      rw [this, ← he]
    have : ∃ f : Nat → Ent, ∀ i, i < len → (f i).Wf ∧ (∀ j, j < 19 → w.cell? (ad.add (i * 19 + j)) = (f i).arr[j]?) := by
      refine ⟨fun i => if h : i < len then Classical.choose (hex i h) else Ent.zero, fun i hi => ?_⟩
      simp only [dif_pos hi]
      exact Classical.choose_spec (hex i hi)
    obtain ⟨f, hfn⟩ := this
    refine ⟨some ad, (List.range len).map f, cap, by simp, by simpa using hl, hmx, ?_, ?_⟩
    · intro hne
      have hpos : 0 < len := by
        rcases Nat.eq_zero_or_pos len with h0 | h0
        · subst h0; simp at hne
        · exact h0
      have hsp : ad.spot = none := by
        have := (hfn 0 hpos).2 0 (by omega)
        rw [Ent.arr0] at this
        cases hs : ad.spot with
        | none => rfl
        | some s =>
          exfalso
          have h00 : ad.add (0 * 19 + 0) = ad := by simp [Addr.add]
          rw [h00] at this
          unfold World.cell? at this
          rw [hs] at this
          split at this <;> simp at this
      obtain ⟨b, o, sp⟩ := ad
      subst hsp
      refine ⟨b, o, rfl, Nat.zero_le _, ?_, fun i hi => ?_⟩
      · have := (hfn 0 hpos).2 0 (by omega)
        rw [Ent.arr0, Addr.add_mid] at this
        exact World.block_lt_of_cell? w _ this
      · simp only [List.length_map, List.length_range] at hi
        have hg : ((List.range len).map f).map Ent.arr = (List.range len).map (fun i => (f i).arr) := by simp
        simp only [List.map_map, List.getElem_map, List.getElem_range, Function.comp]
        have h19 := (f i).arr_size
        rw [← h19]
        refine rd_of_cells (by omega) (fun j hj => ?_)
        rw [h19] at hj
        have := (hfn i hi).2 j hj
        rw [Addr.add_mid, ← Nat.add_assoc] at this
        rw [h19]
        exact this
    · intro e he
      obtain ⟨i, hi, rfl⟩ := List.mem_map.1 he
      exact (hfn i (by simpa using hi)).1
end
end Go.Proofs.Ytodbmgafejclmaa.Base
