/-
  Parts of a proof, laid together by a program of mine (pack.py): Mp.
-/
import Derived.Test.YtodbmgafejclmaaZD34
namespace Go.Proofs.Ytodbmgafejclmaa.Base
open Go.RowKit Go.Maps Go.Proofs.YtodbmgafejclmaaW.PrintWords Go.Proofs.YtodbmgafejclmaaW.PrintLast
set_option linter.unusedSimpArgs false
set_option linter.unusedVariables false
theorem PrOk.mv {w w' : World} {r : PR} (h : PrOk w r) (hz : w.heap.size ≤ w'.heap.size) (hk1 : ∀ a, r.1 = some a → w'.heap[a.block]? = w.heap[a.block]?) (hk2 : ∀ p ∈ r.2.2, ∀ a, p.2.1 = some a → w'.heap[a.block]? = w.heap[a.block]?) : PrOk w' r :=
  ⟨h.1, h.2.1, h.2.2.1, (h.2.2.2.1.keep hk1).more hz, fun p hp => by
    obtain ⟨k1, k2, k3, k4, k5⟩ := h.2.2.2.2 p hp
    exact ⟨k1, k2, (k3.keep (hk2 p hp)).more hz, fun a ha => Nat.lt_of_lt_of_le (k4 a ha) hz, k5⟩⟩
/-- a row's pages, and their bytes, lie apart from a block -/
def PrAp (w : World) (own : Option Nat) (r : PR) : Prop := (∀ a, r.1 = some a → a.block < w.heap.size ∧ some a.block ≠ own) ∧ ∀ p ∈ r.2.2, ∀ a, p.2.1 = some a → some a.block ≠ own
def Pn (w : World) (base : Nat) (v : Value) (T : List PR) : Prop := Ow w base 33 1 v (T.map PR.arr) ∧ ∀ r ∈ T, PrOk w r ∧ PrAp w v.ownBlock r
theorem Pn.nil (w : World) (base : Nat) : Pn w base (.slice none 0 0) [] := ⟨Ow.nil _ _ _ _, fun t ht => by simp at ht⟩
theorem PR.sized (T : List PR) : Sized 1 (T.map PR.arr) := fun x hx => by obtain ⟨p, _, rfl⟩ := List.mem_map.1 hx; rfl
theorem PR.ones (T : List PR) : Ones (T.map PR.arr) := fun x hx v hv => by
  obtain ⟨p, _, rfl⟩ := List.mem_map.1 hx
  simp only [PR.arr, PR.cell, List.mem_cons, List.not_mem_nil, or_false] at hv
  subst hv
  rfl
theorem PrAp.more {w w' : World} {own : Option Nat} {r : PR} (h : PrAp w own r) (hz : w.heap.size ≤ w'.heap.size) : PrAp w' own r := ⟨fun a ha => ⟨Nat.lt_of_lt_of_le (h.1 a ha).1 hz, (h.1 a ha).2⟩, h.2⟩
theorem Pn.below {w w' : World} {base : Nat} {v : Value} {T : List PR} (h : Pn w base v T) (hb : Below w.heap.size w w') : Pn w' base v T :=
  ⟨h.1.below hb (fun g e => (h.1.lt g e).2), fun t ht => ⟨(h.2 t ht).1.below hb, (h.2 t ht).2.more hb.size⟩⟩
theorem Pn.less {w : World} {base b2 : Nat} {v : Value} {T : List PR} (h : Pn w base v T) (hb : b2 ≤ base) : Pn w b2 v T := ⟨h.1.less hb, h.2⟩
theorem Pn.at_ {w : World} {base : Nat} {v : Value} {T : List PR} (h : Pn w base v T) : PrsAt w T := fun r hr => (h.2 r hr).1
theorem Pn.sl {w : World} {base : Nat} {A : Option Addr} {n c : Nat} {T : List PR} (h : Pn w base (.slice A n c) T) : Sl w 0 w.heap.size 1 A (T.map PR.arr) := (h.1.sl (PR.sized T) (by omega)).less (Nat.zero_le _)
theorem Pn.form {w : World} {base : Nat} {v : Value} {T : List PR} (h : Pn w base v T) : ∃ A c, v = .slice A T.length c ∧ T.length ≤ c ∧ c ≤ maxLen := by
  have := h.1.form
  rwa [List.length_map] at this
set_option maxRecDepth 100000 in
theorem info_pgs : (Try.prog.info? 33).map (fun i => (i.zero, i.size, i.bytes)) = some (some (.slice none 0 0), 1, 24) := by kernel_rfl
/-- a row of pages behind rows -/
theorem Pn.app (w : World) (base n : Nat) (v : Value) (T : List PR) (h : Pn w base v T) (hn : T.length = n) (r : PR) (ad : Addr) (hc : w.cell? ad = some r.cell) (hr : PrOk w r) (hap : PrAp w v.ownBlock r) (hsm : n + 1 ≤ 100000) (hbase : base ≤ w.heap.size) (ty : TypeId) :
    ∃ A' c' w', (Builtin.append_ #[27, 27] ty #[v, .slice (some ad) 1 1]).run Try.prog w = .ok (.slice A' (n + 1) c') w' ∧ Pn w' base (.slice A' (n + 1) c') (T ++ [r]) ∧ w.grownBy w' v.ownBlock ∧ n + 1 ≤ c' := by
  obtain ⟨i0, hi0, hz0, hz1, hz2⟩ := info_parts info_pgs
  have hown' : w.ownsRow base 33 1 v n (flat (T.map PR.arr)) := by have := h.1; unfold Ow at this; rw [List.length_map, hn] at this; exact this
  obtain ⟨v', w', hrun, h2, h3, _, h5⟩ := run_append_own_at (P := Try.prog) w base 27 ty 33 i0 _ 1 24 Try.underlying27 hi0 hz0 hz1 hz2 rfl (by omega) v n (flat (T.map PR.arr)) hown' ad 1 1 (flat ([r].map PR.arr)) rfl
    (fun j u hu => by
      have hl := (List.getElem?_eq_some_iff.1 hu).1
      have hl' : (flat ([r].map PR.arr)).length = 1 := rfl
      obtain rfl : j = 0 := by omega
      have : u = r.cell := by have h9 : (flat ([r].map PR.arr))[0]? = some r.cell := rfl; rw [h9] at hu; exact (Option.some.inj hu).symm
      subst this
      exact hc) (PR.ones [r]).flat_all (by unfold maxLen; omega) (by omega) hbase
  have ho' : Ow w' base 33 1 v' ((T ++ [r]).map PR.arr) := by
    unfold Ow
    rw [List.length_map, List.length_append, hn, List.map_append, flat_append]
    exact h2
  obtain ⟨A', c', hv, hc', _⟩ := ho'.form
  rw [List.length_map, List.length_append, hn] at hv hc'
  subst hv
  refine ⟨A', c', w', hrun, ⟨ho', fun t ht => ?_⟩, h3, hc'⟩
  have hk : PrOk w t ∧ PrAp w v.ownBlock t := by
    rcases List.mem_append.1 ht with ht | ht
    · exact h.2 t ht
    · rw [List.mem_singleton.1 ht]; exact ⟨hr, hap⟩
  have hlt2 : ∀ p ∈ t.2.2, ∀ a, p.2.1 = some a → a.block < w.heap.size := fun p hp a ha => (hk.1.2.2.2.2 p hp).2.2.2.1 a ha
  refine ⟨hk.1.mv h3.size (fun a ha => h3.block _ (hk.2.1 a ha).1 (hk.2.1 a ha).2) (fun p hp a ha => h3.block _ (hlt2 p hp a ha) (hk.2.2 p hp a ha)), fun a ha => ⟨Nat.lt_of_lt_of_le (hk.2.1 a ha).1 h3.size, fun e => ?_⟩, fun p hp a ha e => ?_⟩
  · rcases h5 with h5 | h5
    · exact (hk.2.1 a ha).2 (e.trans h5)
    · have e : some a.block = some w.heap.size := e.trans h5
      injection e with e
      have := (hk.2.1 a ha).1
      omega
  · rcases h5 with h5 | h5
    · exact hk.2.2 p hp a ha (e.trans h5)
    · have e : some a.block = some w.heap.size := e.trans h5
      injection e with e
      have := hlt2 p hp a ha
      omega
theorem Ow.cellAt {w : World} {base g n c : Nat} {e : TypeId} {xs : List (Array Value)} (h : Ow w base e 1 (.slice (some ⟨g, 0, none⟩) n c) xs) (hs : Sized 1 xs) {k : Nat} (hk : k < xs.length) : w.cell? ⟨g, k, none⟩ = (flat xs)[k]? := by
  obtain ⟨b, o, e1, _, _, hc⟩ := (h.sl hs (by omega)).flat_cells hs (by intro e; rw [e] at hk; simp at hk)
  injection e1 with e1
  injection e1 with e1 e2 _
  subst e1 e2
  have hl : k < (flat xs).length := by rw [flat_len hs]; omega
  have := hc k _ (List.getElem?_eq_getElem hl)
  rw [Nat.zero_add] at this
  rw [this, List.getElem?_eq_getElem hl]
theorem flat_one (T : List PR) : flat (T.map PR.arr) = T.map PR.cell := by
  induction T with
  | nil => rfl
  | cons r T ih => rw [List.map_cons, List.map_cons, ← ih]; rfl
/-- a row's pages are put in the place of others -/
theorem Pn.setRow {w : World} {base g n c : Nat} {T : List PR} (h : Pn w base (.slice (some ⟨g, 0, none⟩) n c) T) (hn : n = T.length) (k : Nat) (hk : k < n) (r : PR) (hr : PrOk w r) (hap : PrAp w (some g) r) :
    Pn (w.setCell ⟨g, k, none⟩ r.cell) base (.slice (some ⟨g, 0, none⟩) n c) (T.set k r) ∧ w.cell? ⟨g, k, none⟩ = some (T.getD k zPR).cell ∧ w.frozen? ⟨g, k, none⟩ = false := by
  subst hn
  have h0 : w.ownsRow base 33 1 (.slice (some ⟨g, 0, none⟩) T.length c) T.length (flat (T.map PR.arr)) := by have := h.1; unfold Ow at this; rwa [List.length_map] at this
  have hcell := h.1.cellAt (PR.sized T) (k := k) (by rw [List.length_map]; exact hk)
  have key : ∀ t : PR, (PrOk w t ∧ PrAp w (some g) t) → PrOk (w.setCell ⟨g, k, none⟩ r.cell) t ∧ PrAp (w.setCell ⟨g, k, none⟩ r.cell) (some g) t := fun t ⟨h1, h2⟩ =>
    ⟨h1.mv (by simp [World.setCell]) (fun a ha => Below.heap_setCell _ _ _ _ (fun e => (h2.1 a ha).2 (by rw [e]))) (fun p hp a ha => Below.heap_setCell _ _ _ _ (fun e => h2.2 p hp a ha (by rw [e]))), h2.more (by simp [World.setCell])⟩
  refine ⟨⟨?_, fun t ht => ?_⟩, ?_, h0.frozenAt _⟩
  · have h1 := (h0.stored k r.cell).1
    unfold Ow
    rw [List.length_map, List.length_set, flat_one, List.map_set, ← flat_one]
    exact h1
  · rcases List.mem_or_eq_of_mem_set ht with h1 | h1
    · exact key t (h.2 t h1)
    · rw [h1]; exact key r ⟨hr, hap⟩
  · rw [hcell, flat_one, List.getElem?_map, List.getD_eq_getElem?_getD, List.getElem?_eq_getElem hk]
    rfl
theorem Pn.some_of {w : World} {base n c : Nat} {A : Option Addr} {T : List PR} (h : Pn w base (.slice A n c) T) (hp : 0 < n) : ∃ g, A = some ⟨g, 0, none⟩ ∧ base ≤ g ∧ g < w.heap.size ∧ n = T.length := by
  obtain ⟨g, h1, h2, h3, h4⟩ := h.1.some_of hp
  exact ⟨g, h1, h2, h3, by rwa [List.length_map] at h4⟩
theorem Pn.cell {w : World} {base g n c : Nat} {T : List PR} (h : Pn w base (.slice (some ⟨g, 0, none⟩) n c) T) {k : Nat} (hk : k < T.length) : w.cell? ⟨g, k, none⟩ = some (T.getD k zPR).cell := by
  rw [h.1.cellAt (PR.sized T) (k := k) (by rw [List.length_map]; exact hk), flat_one, List.getElem?_map, List.getD_eq_getElem?_getD, List.getElem?_eq_getElem hk]
  rfl
end Go.Proofs.Ytodbmgafejclmaa.Base
