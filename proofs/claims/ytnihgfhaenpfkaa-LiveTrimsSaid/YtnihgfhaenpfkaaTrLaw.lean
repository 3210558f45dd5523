/-
  LiveTrims: for every input the law returns true, and each argument reads afterwards as it read before: a trim counts as an update does.
-/
import Derived.Test.YtnihgfhaenpfkaaTr
import Derived.Test.YtnihgfhaenpfkaaLx
import Derived.Test.YtnihgfhaenpfkaaRows
namespace Go.Proofs.Ytnihgfhaenpfkaa.liveTrims
open Go.Proofs.Ytnihgfhaenpfkaa.Base Go.ChangeShapes Go.WideShapes Go.ChangeAt Go.RowKit

theorem own : ownKnob Try.prog.godebug = none := by kernel_rfl
theorem laid : laidOutB Try.prog = true := by kernel_rfl

set_option maxRecDepth 100000 in
/-- an argument that is a row of bools -/
theorem open_bools {H : Type} {enc : TypeId × Value → H} {w : World} {r : Reach} {b0 : Nat} {v : Value} {d : DataW H} {p : List MemPlace} (hv : Value.okWide Try.prog w r b0 45 v)
    (h : DataW.Trod enc Try.prog w 0 (fun _ => true) true 45 v d p) :
    ∃ (A : Option Addr) (bs : List Bool) (c : Nat), v = .slice A bs.length c ∧ Sl w 0 w.heap.size 1 A (bs.map fun b => #[Value.bool b]) := by
  obtain ⟨a, len, cap, rfl⟩ := okWide_slice Try.underlying45 hv
  obtain ⟨fuel, hf⟩ := h
  rcases Go.Deep.open_slice Try.underlying45 hf with ⟨h0, _⟩ | ⟨ad, len', cap', m, n, D, Pl, hcs, _, hl, hmx, hm, _, hi⟩
  · have h0' : a = none ∧ len = 0 ∧ cap = 0 := by simpa [Value.cells] using h0
    obtain ⟨rfl, rfl, rfl⟩ := h0'
    exact ⟨none, [], 0, rfl, Sl.nil⟩
  · have hcs' : a = some ad ∧ len = len' ∧ cap = cap' := by simpa [Value.cells] using hcs
    obtain ⟨rfl, rfl, rfl⟩ := hcs'
    have hc : Try.prog.cellsOf 4 = 1 := by kernel_rfl
    rw [hc] at hi
    simp only [if_true] at hm
    obtain ⟨L, hlen, hs, _⟩ := cells_list (w := w) (sz := 1) (fun b : Bool => #[Value.bool b]) (fun _ => True) false (fun r => rfl) (by omega) ad len (fun i hil => by
      obtain ⟨cs', hcl, ht⟩ := hi i (by omega)
      obtain ⟨_, hcl2, hat⟩ := World.cells?_some hcl
      obtain ⟨b, he, _⟩ := DataW.trod_bool Try.underlying4 ht
      refine ⟨b, trivial, fun j hj => ?_⟩
      rw [← Go.Deep.add_add, hat j hj, he]
      simp)
    exact ⟨some ad, L, cap, by rw [hlen], hs⟩
set_option maxRecDepth 100000 in
theorem contract (H : Type) (enc : TypeId × Value → H) (W : World) (base : Nat) (args : Array Value) (ds gs : List (DataW H)) (before : List MemPlace)
    (hval : ∀ (j : Nat) t v, Try.f5.params[j]? = some t → args[j]? = some v → Value.okWide Try.prog W .any base t v)
    (hW : DataW.Whole enc Try.prog Try.f5.params.toList Rows.liveTrimsSpec.vars false W args.toList ds gs before) :
    Calls Try.prog 5 args W fun e W' => ∃ v, e = .returned v ∧ Rows.liveTrimsSpec.post enc Try.prog Try.f5 false true false false W args v W' := by
  have hW' := hW
  obtain ⟨p, q, hA0, hV, rfl, hfz, hnd⟩ := hW
  have hA : DataW.TrodAll enc Try.prog W 0 (fun _ => true) true Try.f5.params.toList args.toList ds p := hA0
  rw [Try.params5] at hA hval
  obtain ⟨v0, vs0, d0, ds0, p0, q0, hargs, rfl, rfl, h0, r0⟩ := trodAll_cons hA
  obtain ⟨v1, vs1, d1, ds1, p1, q1, rfl, rfl, rfl, h1, r1⟩ := trodAll_cons r0
  obtain ⟨rfl, rfl, rfl⟩ := trodAll_nil r1
  obtain rfl : args = #[v0, v1] := by cases args; simp_all
  obtain ⟨rfl, rfl⟩ := trodVars_none hV
  obtain ⟨A, L, c, rfl, hs⟩ := open_bools (hval 0 _ v0 rfl rfl) h0
  obtain ⟨a1, rfl, rfl, rfl, w1⟩ := open_int Try.underlying3 (hval 1 _ v1 rfl rfl) h1
  refine (trims_walk A c L a1 W (i64_of w1) hs).mono fun e W' ⟨he, hb⟩ => ?_
  subst he
  exact ⟨_, rfl, law_post laid (by rw [Try.params5]; simp only [List.mem_cons, List.not_mem_nil, or_false]; rintro t (rfl | rfl) <;> exact ⟨by kernel_rfl, of_decide_eq_true (by kernel_rfl)⟩) (by kernel_rfl) Try.underlying4 rfl hW' rfl hb⟩

set_option maxRecDepth 100000 in
theorem lifted (os : Os) (started : os.Started) (H : Type) (enc : TypeId × Value → H) :
    ReturnsInHanded {} Try.checked os 5 .any (Rows.liveTrimsSpec.pre6 enc Try.prog Try.f5 Rows.liveTrimsRow.domain false) (Rows.liveTrimsSpec.post enc Try.prog Try.f5 false true false false) := by
  refine returnsInHanded_of_change (C := Try.checked) own started (by kernel_rfl) Try.func5
    (ChangeSpec.witness6 (enc := enc) (C := Try.checked) false ⟨#[], #[.slice none 0 0, .int .i64 0], []⟩ 8 (by kernel_rfl) (by kernel_rfl) (by kernel_rfl) (by kernel_rfl)) ?_
  intro W base args ds gs before hval hW _ _
  exact contract H enc W base args ds gs before hval hW

theorem proved : Rows.LiveTrimsSaid :=
  OpenClaim.holds_of_wide 5 Try.f5 rfl rfl rfl rfl rfl rfl rfl ⟨rfl, rfl, rfl, rfl, rfl⟩ rfl rfl rfl rfl rfl (by kernel_rfl) Try.func5 (by kernel_rfl)
    (of_decide_eq_true (by kernel_rfl)) (by unfold Func.isWrapper; first | (rw [if_pos (by decide +kernel)]; kernel_rfl) | (rw [if_neg (by decide +kernel)]; exact ⟨rfl, rfl⟩))
    (fun os started H enc _ => lifted os started H enc)
#print axioms proved
end Go.Proofs.Ytnihgfhaenpfkaa.liveTrims
