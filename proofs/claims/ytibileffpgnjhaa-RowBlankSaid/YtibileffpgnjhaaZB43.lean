/-
  Parts of a proof, laid together by a program of mine (pack.py): Ar.
-/
import Derived.Laws.MakeOwn
import Derived.Test.YtibileffpgnjhaaZB42
namespace Go.Proofs.Ytibileffpgnjhaa.Base
open Go.RowKit
set_option linter.unusedSimpArgs false
set_option linter.unusedVariables false
structure Arr (w : World) (b : Nat) (t : TypeId) (sz : Nat) (xs : List (Array Value)) : Prop where
  hp : w.heap[b]? = some (.cells (flat xs).toArray t (0, 0))
  sized : Sized sz xs
section
variable {w w' : World} {b sz : Nat} {t : TypeId} {xs : List (Array Value)}
theorem Arr.lt (h : Arr w b t sz xs) : b < w.heap.size := (Array.getElem?_eq_some_iff.1 h.hp).1
theorem Arr.all (h : Arr w b t sz xs) : rd w b 0 (xs.length * sz) = some (flat xs).toArray := by
  unfold rd
  rw [h.hp]
  have := flat_size h.sized
  simp only
  rw [if_pos (by omega)]
  congr 1
  rw [Nat.zero_add, ← this]
  exact Array.extract_size
theorem Arr.sl (h : Arr w b t sz xs) {L : Nat} (hL : L ≤ b) : Sl w L w.heap.size sz (some ⟨b, 0, none⟩) xs := Sl.of_rd h.sized h.all hL h.lt
theorem Arr.rd (h : Arr w b t sz xs) {k : Nat} (hk : k < xs.length) : Base.rd w b (k * sz) sz = some xs[k] := by
  obtain ⟨b', o', e, _, _, hr⟩ := (h.sl (Nat.zero_le _)).at_ hk
  injection e with e
  injection e with e1 e2
  subst e1 e2
  rw [Nat.zero_add] at hr
  exact hr
theorem Arr.canW (h : Arr w b t sz xs) {o m : Nat} (ho : o + m ≤ xs.length * sz) : Base.canW w b o m = true := by
  unfold Base.canW
  rw [h.hp]
  have := flat_size h.sized
  simp only [Bool.and_eq_true, decide_eq_true_eq]
  exact ⟨by omega, trivial⟩
theorem Arr.cell (h : Arr w b t sz xs) {k m : Nat} (hk : k < xs.length) (hm : m < sz) : w.cell? ⟨b, k * sz + m, none⟩ = xs[k][m]? := by
  rw [← flat_at h.sized k hk m hm]
  simp [World.cell?, h.hp]
theorem Arr.frozen (h : Arr w b t sz xs) (o : Nat) : w.frozen? ⟨b, o, none⟩ = false := by simp [World.frozen?, h.hp]
theorem flat_cut {xs : List (Array Value)} (hs : Sized sz xs) {k : Nat} (hk : k < xs.length) (y : Array Value) : ∃ p s : List Value, p.length = k * sz ∧ flat xs = p ++ xs[k].toList ++ s ∧ flat (xs.set k y) = p ++ y.toList ++ s := by
  refine ⟨flat (xs.take k), flat (xs.drop (k + 1)), ?_, ?_, ?_⟩
  · rw [flat_len (hs.take k), List.length_take]
    congr 1
    omega
  · have h1 : xs = xs.take k ++ [xs[k]] ++ xs.drop (k + 1) := by
      rw [List.append_assoc, List.singleton_append, ← List.drop_eq_getElem_cons hk, List.take_append_drop]
    calc flat xs = flat (xs.take k ++ [xs[k]] ++ xs.drop (k + 1)) := by rw [← h1]
      _ = _ := by rw [flat_append, flat_append]; simp [flat]
  · rw [List.set_eq_take_append_cons_drop, if_pos hk, flat_append]
    simp [flat]
theorem Sized.set {xs : List (Array Value)} (hs : Sized sz xs) (k : Nat) {y : Array Value} (hy : y.size = sz) : Sized sz (xs.set k y) := fun x hx => by
  rcases List.mem_or_eq_of_mem_set hx with h | h
  · exact hs x h
  · rw [h]; exact hy
/-- an element is written -/
theorem Arr.wr (h : Arr w b t sz xs) {k : Nat} (hk : k < xs.length) {y : Array Value} (hy : y.size = sz) : Arr (Base.wr w b (k * sz) y) b t sz (xs.set k y) := by
  obtain ⟨p, s, hp, h1, h2⟩ := flat_cut h.sized hk y
  have hx : xs[k].toList.length = sz := by have := h.sized xs[k] (List.getElem_mem hk); simpa using this
  have hyl : y.toList.length = sz := by simpa using hy
  refine ⟨?_, h.sized.set k hy⟩
  unfold Base.wr
  rw [heap_setCells_same b y.toList (k * sz) w _ t (0, 0) h.hp (by rw [List.size_toArray, h1]; simp only [List.length_append]; omega)]
  rw [h2]
  congr 3
  show List.take (k * sz) (flat xs) ++ y.toList ++ List.drop (k * sz + y.toList.length) (flat xs) = _
  rw [h1, List.append_assoc p, List.take_append_of_le_length (by omega), List.take_of_length_le (by omega)]
  congr 1
  rw [← List.append_assoc, List.drop_append_of_le_length (by simp only [List.length_append]; omega)]
  rw [List.drop_of_length_le (by simp only [List.length_append]; omega)]
  rfl
/-- a cell of an element is written -/
theorem Arr.setCell (h : Arr w b t sz xs) {k m : Nat} (hk : k < xs.length) (hm : m < sz) (v : Value) : Arr (w.setCell ⟨b, k * sz + m, none⟩ v) b t sz (xs.set k (xs[k].setIfInBounds m v)) := by
  obtain ⟨p, s, hp, h1, h2⟩ := flat_cut h.sized hk (xs[k].setIfInBounds m v)
  have hx : xs[k].size = sz := h.sized xs[k] (List.getElem_mem hk)
  refine ⟨?_, h.sized.set k (by simpa using hx)⟩
  have h3 : (w.setCell ⟨b, k * sz + m, none⟩ v).heap[b]? = some (.cells ((flat xs).toArray.setIfInBounds (k * sz + m) v) t (0, 0)) := by
    simp [World.setCell, Array.getElem?_modify, h.hp]
  rw [h3, h2]
  congr 2
  rw [h1]
  apply Array.ext'
  simp only [Array.toList_setIfInBounds]
  rw [List.append_assoc, List.append_assoc, List.set_append_right _ _ (by omega), show k * sz + m - p.length = m from by omega, List.set_append_left _ _ (by simp; omega)]
/-- made of noughts -/
theorem Arr.made (w : World) (t : TypeId) (n : Nat) (z : Array Value) (hpos : 0 < z.size) : Arr (w.alloc (.cells (madeCells z (n * z.size)) t)) w.heap.size t z.size (List.replicate n z) := by
  have hs : Sized z.size (List.replicate n z) := fun x hx => by rw [List.eq_of_mem_replicate hx]
  refine ⟨?_, hs⟩
  rw [heap_alloc_new]
  congr 2
  apply Array.ext_getElem?
  intro j
  have hl : (flat (List.replicate n z)).length = n * z.size := by rw [flat_len hs, List.length_replicate]
  rcases Nat.lt_or_ge j (n * z.size) with hj | hj
  · obtain ⟨i, k, hi, hk, rfl⟩ := flat_mod hs (j := j) (by rw [List.length_replicate]; exact hj)
    have h1 := flat_at hs i hi k hk
    simp only [List.getElem_replicate] at h1
    rw [show (flat (List.replicate n z)).toArray[i * z.size + k]? = z[k]? from by rw [List.getElem?_toArray]; exact h1]
    unfold madeCells
    rw [Array.getElem?_map, Array.getElem?_range, if_pos hj]
    simp only [Option.map_some]
    rw [show (i * z.size + k) % z.size = k from by rw [Nat.add_comm, Nat.add_mul_mod_self_right, Nat.mod_eq_of_lt hk]]
    rw [Array.getElem?_eq_getElem hk]
    congr 1
    exact getElem!_pos z k hk
  · rw [Array.getElem?_eq_none (by rw [size_madeCells]; exact hj)]
    exact (Array.getElem?_eq_none (by rw [List.size_toArray]; omega)).symm
end
end Go.Proofs.Ytibileffpgnjhaa.Base
