/-
  Parts of a proof, laid together by a program of mine (pack.py): Rg.
-/
import Derived.Test.YtibileffpgnjhaaZC23
namespace Go.Proofs.Ytibileffpgnjhaa.Base
open Go.RowKit Go.Proofs.YtibileffpgnjhaaW.PrintWords
set_option linter.unusedSimpArgs false
set_option linter.unusedVariables false
theorem own_mv {w w' : World} {base : Nat} {e : TypeId} {sz n : Nat} {v : Value} {xs : List Value} (h : w.ownsRow base e sz v n xs) (hm : ∀ k, v.ownBlock = some k → w'.heap[k]? = w.heap[k]?) : w'.ownsRow base e sz v n xs := by
  refine ⟨h.1, ?_⟩
  rcases h.2 with h0 | ⟨g, cap, cur, rfl, h1, h2, h3⟩
  · exact .inl h0
  · exact .inr ⟨g, cap, cur, rfl, h1, (hm g rfl).trans h2, h3⟩
theorem Rws.move {w w' : World} {base : Nat} {v : Value} {T : List Hr} (h : Rws w base v T) (hz : w.heap.size ≤ w'.heap.size) (hv : ∀ k, v.ownBlock = some k → w'.heap[k]? = w.heap[k]?) (ht : ∀ t ∈ T, ∀ a, t.1 = some a → t.2.2 ≠ [] → w'.heap[a.block]? = w.heap[a.block]?) : Rws w' base v T := by
  refine ⟨own_mv h.1 hv, fun t hm => ?_⟩
  obtain ⟨k1, k2, k3, k4⟩ := h.2 t hm
  refine ⟨k1, k2, ?_, fun a ha => ⟨Nat.lt_of_lt_of_le (k4 a ha).1 hz, (k4 a ha).2⟩⟩
  by_cases hne : t.2.2 = []
  · rw [hne]; exact fun hn => absurd rfl hn
  · exact (k3.keep (fun a ha => ht t hm a ha hne)).more hz
theorem Rws.less {w : World} {base base' : Nat} {v : Value} {T : List Hr} (h : Rws w base v T) (hb : base' ≤ base) : Rws w base' v T := by
  refine ⟨⟨h.1.1, ?_⟩, h.2⟩
  rcases h.1.2 with h0 | ⟨g, cap, cur, rfl, h1, h2, h3⟩
  · exact .inl h0
  · exact .inr ⟨g, cap, cur, rfl, by omega, h2, h3⟩
/-- behind what a range over a function lays -/
theorem Rws.grow {w w' : World} {base : Nat} {v : Value} {T : List Hr} {row : Option Nat} (h : Rws w base v T) (hg : w.grownBy w' row) (hr : ∀ r, row = some r → ∃ o : Obj, w.heap[r]? = some o ∧ o.isCells = false) : Rws w' base v T := by
  refine h.move hg.size (fun k hk => ?_) (fun t hm a ha hne => ?_)
  · refine hg.block k (h.1.lt k hk).2 (fun e => ?_)
    obtain ⟨o, ho, hc⟩ := hr k e.symm
    rcases h.1.2 with ⟨rfl, _⟩ | ⟨g, cap, cur, rfl, _, h2, _⟩
    · simp [Value.ownBlock] at hk
    · simp only [Value.ownBlock, Option.some.injEq] at hk
      subst hk
      rw [h2] at ho
      cases ho
      simp [Obj.isCells] at hc
  · obtain ⟨k1, k2, k3, k4⟩ := h.2 t hm
    refine hg.block _ (k4 a ha).1 (fun e => ?_)
    obtain ⟨o, ho, hc⟩ := hr _ e.symm
    obtain ⟨b, o', e', _, _, hrd⟩ := k3.pos (by rw [By.len]; exact List.length_pos_iff.2 hne)
    rw [ha] at e'
    injection e' with e'
    subst e'
    have h5 := hrd 0 (by rw [By.len]; exact List.length_pos_iff.2 hne)
    unfold rd at h5
    rw [ho] at h5
    cases o <;> simp [Obj.isCells] at hc h5
/-- the rows' box and what stands beside it, while the rows are made -/
def EnI (w : World) (Bo : Nat) (s u a : Int) (es : List Ent) (pre : List (Int × Ent)) (W : World) : Prop :=
  ∃ (A : Option Addr) (c : Nat) (T : List Hr), Below w.heap.size w W ∧ Bo < W.heap.size ∧ W.heap[Bo]? = some (.cells #[.slice A T.length c] 25 (0, 0)) ∧
    W.heap[w.heap.size]? = some (.cells #[.int .i64 s] 3 (0, 0)) ∧ W.heap[w.heap.size + 1]? = some (.cells #[.int .i64 u] 3 (0, 0)) ∧ W.heap[w.heap.size + 2]? = some (.cells #[.int .i64 a] 3 (0, 0)) ∧
    Rws W (Bo + 3) (.slice A T.length c) T ∧ (∀ t ∈ T, ∀ ad, t.1 = some ad → Bo < ad.block) ∧ T.map (·.2.2) = rowsE s u a es pre.length
theorem EnI.grow {w : World} {Bo : Nat} {s u a : Int} {es : List Ent} {pre : List (Int × Ent)} {W W' : World} {row : Option Nat} (h : EnI w Bo s u a es pre W) (hg : W.grownBy W' row) (hr : ∀ r, row = some r → w.heap.size ≤ r ∧ ∃ o : Obj, W.heap[r]? = some o ∧ o.isCells = false) : EnI w Bo s u a es pre W' := by
  obtain ⟨A, c, T, h1, h2, h3, h4, h5, h6, h7, h8, h9⟩ := h
  have key : ∀ (k : Nat) (cs : Array Value) (e : TypeId), W.heap[k]? = some (.cells cs e (0, 0)) → W'.heap[k]? = some (.cells cs e (0, 0)) := fun k cs e hk => by
    refine (hg.block k (Array.getElem?_eq_some_iff.1 hk).1 (fun e2 => ?_)).trans hk
    obtain ⟨_, o, ho, hc⟩ := hr k e2.symm
    rw [hk] at ho
    cases ho
    simp [Obj.isCells] at hc
  exact ⟨A, c, T, h1.grown hg h1.size (fun k e => (hr k e).1), Nat.lt_of_lt_of_le h2 hg.size, key _ _ _ h3, key _ _ _ h4, key _ _ _ h5, key _ _ _ h6, h7.grow hg (fun r e => (hr r e).2), h8, h9⟩
theorem EnI.below {w : World} {Bo : Nat} {s u a : Int} {es : List Ent} {pre : List (Int × Ent)} {W W' : World} (h : EnI w Bo s u a es pre W) (hb : Below W.heap.size W W') : EnI w Bo s u a es pre W' := by
  obtain ⟨A, c, T, h1, h2, h3, h4, h5, h6, h7, h8, h9⟩ := h
  have key : ∀ (k : Nat) (cs : Array Value) (e : TypeId), W.heap[k]? = some (.cells cs e (0, 0)) → W'.heap[k]? = some (.cells cs e (0, 0)) := fun k cs e hk => (hb.block k (Array.getElem?_eq_some_iff.1 hk).1).trans hk
  exact ⟨A, c, T, h1.trans (hb.mono h1.size), Nat.lt_of_lt_of_le h2 hb.size, key _ _ _ h3, key _ _ _ h4, key _ _ _ h5, key _ _ _ h6, h7.below hb, h8, h9⟩
end Go.Proofs.Ytibileffpgnjhaa.Base
