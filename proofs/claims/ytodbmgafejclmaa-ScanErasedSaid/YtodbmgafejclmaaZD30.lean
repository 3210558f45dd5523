/-
  Parts of a proof, laid together by a program of mine (pack.py): Ao.
-/
import Derived.Test.YtodbmgafejclmaaZD29
namespace Go.Proofs.Ytodbmgafejclmaa.Base
open Go.RowKit Go.Proofs.YtodbmgafejclmaaW.PrintLast
set_option linter.unusedSimpArgs false
set_option linter.unusedVariables false
section
variable {P : Program} {ops : Array Oper} {Q : Exit → Act → World → Prop}
/-- each operation waits for elder ones only -/
def topoB (md : Region.Mode) (ops : Array Oper) : Bool := (List.range ops.size).all fun j => match ops[j]? with
  | some o => o.after.all fun e => !Region.binds md e || decide (e.on < j)
  | none => true
def unl (n : Nat) (l : Array Bool) : Nat := (List.range n).countP fun j => !l.getD j true
theorem countP_lt {α : Type} {p q : α → Bool} : ∀ {l : List α} (x : α), x ∈ l → p x = true → q x = false → (∀ y ∈ l, q y = true → p y = true) → l.countP q < l.countP p
  | [], x, hx, _, _, _ => by cases hx
  | y :: l, x, hx, hp, hq, h => by
    have hle : l.countP q ≤ l.countP p := List.countP_mono_left fun z hz hqz => h z (by simp [hz]) hqz
    rcases List.mem_cons.1 hx with rfl | hx
    · rw [List.countP_cons_of_pos hp, List.countP_cons_of_neg (by simp [hq])]
      omega
    · have := countP_lt x hx hp hq fun z hz => h z (by simp [hz])
      rw [List.countP_cons, List.countP_cons]
      have h1 := h y (by simp)
      cases hqy : q y
      · cases hpy : p y <;> simp <;> omega
      · rw [h1 hqy]; simp; omega
theorem all_listed {md : Region.Mode} {l : Array Bool} (ht : topoB md ops = true) (hl : l.size = ops.size) (hr : Region.ready md ops l = []) : ∀ i, i < ops.size → l.getD i false = true := by
  intro i
  induction i using Nat.strongRecOn with
  | _ i ih =>
    intro hi
    rcases Bool.eq_false_or_eq_true (l.getD i false) with h | h
    · exact h
    · exfalso
      have h1 : l.getD i true = false := by
        have hli : i < l.size := by omega
        simp [hli] at h ⊢
        exact h
      have ho : ops[i]? = some ops[i] := Array.getElem?_eq_getElem hi
      have : i ∈ Region.ready md ops l := mem_ready.2 ⟨h1, ops[i], ho, fun e he hb => by
        have h2 := List.all_eq_true.1 ht i (List.mem_range.2 hi)
        rw [ho] at h2
        have h3 := Array.all_eq_true_iff_forall_mem.1 h2 e he
        rw [hb] at h3
        have h4 : e.on < i := by simpa using h3
        exact ih e.on h4 (by omega)⟩
      rw [hr] at this
      cases this
theorem wpAny_inv {md : Region.Mode} (Inv : Array Bool → Act → World → Prop) (ht : topoB md ops = true)
    (hstep : ∀ l a w i o, ops[i]? = some o → l.getD i true = false → (∀ e ∈ o.after, Region.binds md e = true → l.getD e.on false = true) → l.size = ops.size → Inv l a w →
      ∀ K : Act → World → Prop, Shut (∀ a' w', Inv (l.setIfInBounds i true) a' w' → K a' w') → if Region.wanted o (yielded ops a.tmps) = true then Oper.wp P o a w K Q else K (a.put o.dst undef) w)
    (hend : ∀ l a w, (∀ i, i < ops.size → l.getD i false = true) → Inv l a w → Q .normal a w) :
    ∀ (fuel : Nat) (l : Array Bool) (a : Act) (w : World), l.size = ops.size → Inv l a w → unl ops.size l ≤ fuel → wpAny P md ops Q fuel l a w
  | 0, l, a, w, hl, hI, hf => by
    have hr : Region.ready md ops l = [] := by
      rw [List.eq_nil_iff_forall_not_mem]
      intro j hj
      obtain ⟨h1, o, ho, _⟩ := mem_ready.1 hj
      have hlt : j < ops.size := (Array.getElem?_eq_some_iff.1 ho).1
      have : 0 < unl ops.size l := List.countP_pos_iff.2 ⟨j, List.mem_range.2 hlt, by rw [h1]; rfl⟩
      omega
    exact ⟨hr, hend l a w (all_listed ht hl hr) hI⟩
  | fuel + 1, l, a, w, hl, hI, hf => by
    refine ⟨fun hr => hend l a w (all_listed ht hl hr) hI, fun i hi => ?_⟩
    obtain ⟨h1, o, ho, hall⟩ := mem_ready.1 hi
    have hlt : i < ops.size := (Array.getElem?_eq_some_iff.1 ho).1
    refine wpOp_step ho (fun K hK => hstep l a w i o ho h1 hall hl hI K ?_)
    have hz : (l.setIfInBounds i true).size = ops.size := by simpa using hl
    have hu : unl ops.size (l.setIfInBounds i true) < unl ops.size l := countP_lt i (List.mem_range.2 hlt) (by rw [h1]; rfl) (by simp [hl, hlt]) (fun y hy h => by
      by_cases hiy : i = y
      · subst hiy; rw [h1]; rfl
      · rw [getD_set_ne true hiy] at h; exact h)
    exact fun a' w' hI' => hK a' w' (wpAny_inv Inv ht hstep hend fuel _ a' w' hz hI' (by omega))
theorem region_inv {id : Nat} {a : Act} {w : World} (n : Nat) (Inv : Array Bool → Act → World → Prop) (hm : P.follows .mixedOrders = true) (ht : topoB .any ops = true) (hn : ops.size = n) (h0 : Inv (Array.replicate n false) a w.drew)
    (hstep : ∀ l a w i o, ops[i]? = some o → l.getD i true = false → (∀ e ∈ o.after, Region.binds .any e = true → l.getD e.on false = true) → l.size = n → Inv l a w →
      ∀ K : Act → World → Prop, Shut (∀ a' w', Inv (l.setIfInBounds i true) a' w' → K a' w') → if Region.wanted o (yielded ops a.tmps) = true then Oper.wp P o a w K Q else K (a.put o.dst undef) w)
    (hend : ∀ l a w, (∀ i, i < n → l.getD i false = true) → Inv l a w → Q .normal a w) : (Code.region id ops true).wp P Q a w := by
  subst hn
  refine wp_region_any hm (wpAny_inv Inv ht hstep hend _ _ _ _ (by simp) h0 ?_)
  unfold unl
  exact Nat.le_trans List.countP_le_length (by simp)
end
end Go.Proofs.Ytodbmgafejclmaa.Base
