/-
  live.Of: the three rows that it makes, in whatever order.
-/
import Derived.Test.YtnihgfhaenpfkaaLm
import Derived.Test.YtnihgfhaenpfkaaAo
import Derived.Test.YtnihgfhaenpfkaaAr
namespace Go.Proofs.Ytnihgfhaenpfkaa.Base
open Go.RowKit Go.Proofs.YtnihgfhaenpfkaaW.PrintWords Go.Proofs.YtnihgfhaenpfkaaW.PrintLast
set_option linter.unusedSimpArgs false
set_option linter.unusedVariables false
def zP : Pl := ⟨0, 0, 0⟩
/-- the act, while the rows are made -/
def ofA (A : Option Addr) (Tl c b3 : Nat) (n : Int) (u13 u14 u16 u17 x6 x7 x8 x18 x19 x20 x21 x22 x23 : Value) : Act := { tmps := #[.slice A Tl c, .int .i64 n, undef, .pointer (some ⟨b3, 0, none⟩), .slice none 0 0, .slice none 0 0, x6, x7, x8, undef, undef, undef, .int .i64 n, u13, u14, .int .i64 n, u16, u17, x18, x19, x20, x21, x22, x23, undef, undef, undef, undef, undef, undef, undef, undef, undef, undef, undef, undef, undef, undef, undef, undef, undef, undef, undef, undef, undef, undef, undef, undef, undef, undef, undef, undef, undef, undef, undef, undef, undef, undef, undef, undef, undef, undef, undef, undef, undef, undef, undef, undef, undef, undef, undef, undef, undef, undef, undef, undef, undef, undef, undef, undef, undef, undef, undef, undef, undef, undef, undef, undef, undef, undef, undef, undef, undef, undef, undef, undef, undef, undef, undef, undef, undef], defers := [] }
/-- what has come up, and what is known of it -/
structure OfI (w0 : World) (n : Nat) (l : Array Bool) (x6 x7 x8 x18 x19 x20 x21 x22 x23 : Value) (w : World) : Prop where
  b : Below w0.heap.size w0 w
  l0 : l.getD 0 false = true → x18 = .int .i64 n
  l2 : l.getD 2 false = true → x20 = .int .i64 n
  l4 : l.getD 4 false = true → x22 = .int .i64 n
  l1 : l.getD 1 false = true → ∃ b, x19 = .slice (some ⟨b, 0, none⟩) n n ∧ w0.heap.size ≤ b ∧ Arr w b 37 19 (List.replicate n Ent.zero.arr)
  l3 : l.getD 3 false = true → ∃ b, x21 = .slice (some ⟨b, 0, none⟩) n n ∧ w0.heap.size ≤ b ∧ Arr w b 34 3 (List.replicate n zP.arr)
  l5 : l.getD 5 false = true → ∃ b, x23 = .slice (some ⟨b, 0, none⟩) n n ∧ w0.heap.size ≤ b ∧ Arr w b 3 1 (List.replicate n #[.int .i64 0])
  l6 : l.getD 6 false = true → ∃ p v, x6 = .pointer (some ⟨p, 0, none⟩) ∧ w0.heap.size ≤ p ∧ w.heap[p]? = some (.cells #[v] 27 (0, 0)) ∧ (l.getD 9 false = true → v = x19)
  l7 : l.getD 7 false = true → ∃ p v, x7 = .pointer (some ⟨p, 0, none⟩) ∧ w0.heap.size ≤ p ∧ w.heap[p]? = some (.cells #[v] 28 (0, 0)) ∧ (l.getD 10 false = true → v = x21)
  l8 : l.getD 8 false = true → ∃ p v, x8 = .pointer (some ⟨p, 0, none⟩) ∧ w0.heap.size ≤ p ∧ w.heap[p]? = some (.cells #[v] 31 (0, 0)) ∧ (l.getD 11 false = true → v = x23)
  c9 : l.getD 9 false = true → l.getD 1 false = true ∧ l.getD 6 false = true
  c10 : l.getD 10 false = true → l.getD 3 false = true ∧ l.getD 7 false = true
  c11 : l.getD 11 false = true → l.getD 5 false = true ∧ l.getD 8 false = true
theorem make_ent (n : Nat) (hc : n ≤ 100000) (W : World) :
    (Instr.makeSlice 27 (.int .i64 (n : Int)) (.int .i64 (n : Int))).run Try.prog W = .ok (.slice (some ⟨W.heap.size, 0, none⟩) n n) (W.alloc (.cells (madeCells Ent.zero.arr (n * 19)) 37)) := by
  obtain ⟨i0, hi0, hz0, hz1, hz2⟩ := info_parts info_ent3
  have := run_make (P := Try.prog) W 27 37 i0 _ Try.underlying27 hi0 hz0 .i64 .i64 (n : Int) (n : Int) (by omega) (by omega) (by rw [hz2]; omega) (by omega)
  simpa [hz1, Value.cells] using this
theorem info_pl : (Try.prog.info? 34).map (fun i => (i.zero, i.size, i.bytes)) = some (some (.agg zP.arr), 3, 24) := by kernel_rfl
theorem info_int3 : (Try.prog.info? 3).map (fun i => (i.zero, i.size, i.bytes)) = some (some (.int .i64 0), 1, 8) := by kernel_rfl
theorem make_pl (n : Nat) (hc : n ≤ 100000) (W : World) :
    (Instr.makeSlice 28 (.int .i64 (n : Int)) (.int .i64 (n : Int))).run Try.prog W = .ok (.slice (some ⟨W.heap.size, 0, none⟩) n n) (W.alloc (.cells (madeCells zP.arr (n * 3)) 34)) := by
  obtain ⟨i0, hi0, hz0, hz1, hz2⟩ := info_parts info_pl
  have := run_make (P := Try.prog) W 28 34 i0 _ Try.underlying28 hi0 hz0 .i64 .i64 (n : Int) (n : Int) (by omega) (by omega) (by rw [hz2]; omega) (by omega)
  simpa [hz1, Value.cells] using this
theorem make_int (n : Nat) (hc : n ≤ 100000) (W : World) :
    (Instr.makeSlice 31 (.int .i64 (n : Int)) (.int .i64 (n : Int))).run Try.prog W = .ok (.slice (some ⟨W.heap.size, 0, none⟩) n n) (W.alloc (.cells (madeCells #[.int .i64 0] (n * 1)) 3)) := by
  obtain ⟨i0, hi0, hz0, hz1, hz2⟩ := info_parts info_int3
  have := run_make (P := Try.prog) W 31 3 i0 _ Try.underlying31 hi0 hz0 .i64 .i64 (n : Int) (n : Int) (by omega) (by omega) (by rw [hz2]; omega) (by omega)
  simpa [hz1, Value.cells] using this
/-- what an allocation leaves -/
theorem OfI.alloc {w0 : World} {n : Nat} {l : Array Bool} {x6 x7 x8 x18 x19 x20 x21 x22 x23 : Value} {w : World} (h : OfI w0 n l x6 x7 x8 x18 x19 x20 x21 x22 x23 w) (o : Obj) : OfI w0 n l x6 x7 x8 x18 x19 x20 x21 x22 x23 (w.alloc o) where
  b := h.b.alloc h.b.size o
  l0 := h.l0
  l2 := h.l2
  l4 := h.l4
  l1 := fun hl => by obtain ⟨b, h1, h2, h3⟩ := h.l1 hl; exact ⟨b, h1, h2, h3.mv (Below.heap_alloc _ _ _ h3.lt)⟩
  l3 := fun hl => by obtain ⟨b, h1, h2, h3⟩ := h.l3 hl; exact ⟨b, h1, h2, h3.mv (Below.heap_alloc _ _ _ h3.lt)⟩
  l5 := fun hl => by obtain ⟨b, h1, h2, h3⟩ := h.l5 hl; exact ⟨b, h1, h2, h3.mv (Below.heap_alloc _ _ _ h3.lt)⟩
  l6 := fun hl => by obtain ⟨p, v, h1, h2, h3, h4⟩ := h.l6 hl; exact ⟨p, v, h1, h2, (Below.heap_alloc _ _ _ (Array.getElem?_eq_some_iff.1 h3).1).trans h3, h4⟩
  l7 := fun hl => by obtain ⟨p, v, h1, h2, h3, h4⟩ := h.l7 hl; exact ⟨p, v, h1, h2, (Below.heap_alloc _ _ _ (Array.getElem?_eq_some_iff.1 h3).1).trans h3, h4⟩
  l8 := fun hl => by obtain ⟨p, v, h1, h2, h3, h4⟩ := h.l8 hl; exact ⟨p, v, h1, h2, (Below.heap_alloc _ _ _ (Array.getElem?_eq_some_iff.1 h3).1).trans h3, h4⟩
  c9 := h.c9
  c10 := h.c10
  c11 := h.c11
theorem getD_no {l : Array Bool} {i : Nat} (h : l.getD i true = false) (h' : l.getD i false = true) : False := by
  rcases Nat.lt_or_ge i l.size with hi | hi
  · simp [hi] at h h'
    rw [h] at h'
    cases h'
  · simp [Array.getElem?_eq_none hi] at h
theorem blk_ne {w : World} {a b : Nat} {x y : Array Value} {t t' : TypeId} {f f' : Nat × Nat} (h : w.heap[a]? = some (.cells x t f)) (h' : w.heap[b]? = some (.cells y t' f')) (ht : t ≠ t') : a ≠ b := by
  rintro rfl
  rw [h] at h'
  injection h' with h'
  injection h' with _ h2 _
  exact ht h2
theorem set_one {w : World} {p : Nat} {v : Value} {t : TypeId} (h : w.heap[p]? = some (.cells #[v] t (0, 0))) (u : Value) : (w.setCell ⟨p, 0, none⟩ u).heap[p]? = some (.cells #[u] t (0, 0)) := by
  simp [World.setCell, Array.getElem?_modify, h]
def nP : Pl := ⟨-1, 0, 0⟩
theorem rep_step {α : Type} (a b : α) (n j : Nat) (hj : j < n) : (List.replicate j a ++ List.replicate (n - j) b).set j a = List.replicate (j + 1) a ++ List.replicate (n - (j + 1)) b := by
  rw [List.set_append_right _ _ (by simp), List.length_replicate, Nat.sub_self]
  obtain ⟨d, hd⟩ : ∃ d, n - j = d + 1 := ⟨n - j - 1, by omega⟩
  rw [hd, show n - (j + 1) = d from by omega, List.replicate_succ, List.set_cons_zero, List.replicate_succ', List.append_assoc]
  rfl
theorem map_const {α β : Type} (f : α → β) (b : β) : ∀ l : List α, (∀ x ∈ l, f x = b) → l.map f = List.replicate l.length b
  | [], _ => rfl
  | x :: l, h => by rw [List.map_cons, h x (by simp), map_const f b l (fun y hy => h y (by simp [hy]))]; rfl
theorem inits (n : Nat) : (esL n []).map Ent.arr = List.replicate n Ent.zero.arr ∧ (plL n []).map Pl.arr = List.replicate n nP.arr ∧ (seL n []).map (fun x => #[Value.int .i64 x]) = List.replicate n #[.int .i64 0] := by
  refine ⟨?_, ?_, ?_⟩
  · rw [esL, List.map_map]; exact (map_const _ Ent.zero.arr (List.range n) (fun x _ => rfl)).trans (by rw [List.length_range])
  · rw [plL, List.map_map]; exact (map_const _ nP.arr (List.range n) (fun x _ => rfl)).trans (by rw [List.length_range])
  · rw [seL, List.map_map]; exact (map_const _ #[Value.int .i64 0] (List.range n) (fun x _ => rfl)).trans (by rw [List.length_range])
theorem size_set' (w : World) (p : Addr) (v : Value) : (w.setCell p v).heap.size = w.heap.size := by simp [World.setCell]
/-! ### places, updates with their places, as wholes -/
theorem Pl.arr_size (p : Pl) : p.arr.size = 3 := rfl
theorem Pl.okW (p : Pl) : okW p.arr 3 = true := by simp [Base.okW, Pl.arr, Value.oneCell']
theorem ldV_pl (a : Addr) : loadVar 34 a = ldV 34 a := rfl
theorem stV_pl (a : Addr) (v : Value) : storeVar 34 a v = stV 34 a v := rfl
theorem info_pl1 : (Try.prog.info? 34).map (·.size) = some 3 := by kernel_rfl
theorem run_ldV_pl (w : World) (b o : Nat) : (ldV 34 ⟨b, o, none⟩).run Try.prog w = ldR Try.prog 34 ⟨b, o, none⟩ (rd w b o 3) w :=
  run_ldV Try.prog 34 3 _ Try.underlying34 rfl info_pl1 w b o
theorem run_stV_pl (w : World) (b o : Nat) (cs : Array Value) : (stV 34 ⟨b, o, none⟩ (.agg cs)).run Try.prog w =
    stR Try.prog 34 ⟨b, o, none⟩ (canW w b o 3 && okW cs 3) (.agg cs) w (wr w b o cs) :=
  run_stV Try.prog 34 3 info_pl1 w b o cs
theorem U.arr_size (u : U) : u.arr.size = 23 := by unfold U.arr; rw [Array.size_append, Ent.arr_size]; rfl
theorem U.okW (u : U) : okW u.arr 23 = true := by
  show (decide (u.arr.size = 23) && u.arr.all (·.oneCell')) = true
  rw [Bool.and_eq_true]
  refine ⟨by simpa using U.arr_size u, ?_⟩
  unfold U.arr
  rw [Array.all_append, Ent.one]
  simp [Value.oneCell']
theorem stV_had (a : Addr) (v : Value) : storeVar 56 a v = stV 56 a v := rfl
theorem info_had : (Try.prog.info? 56).map (·.size) = some 23 := by kernel_rfl
theorem run_stV_had (w : World) (b o : Nat) (cs : Array Value) : (stV 56 ⟨b, o, none⟩ (.agg cs)).run Try.prog w =
    stR Try.prog 56 ⟨b, o, none⟩ (canW w b o 23 && okW cs 23) (.agg cs) w (wr w b o cs) :=
  run_stV Try.prog 56 23 info_had w b o cs
theorem U.parts (u : U) : u.arr.extract 0 19 = u.e.arr ∧ u.arr.extract 19 22 = u.p.arr := by
  constructor
  · simp [U.arr, Array.extract_append, Ent.arr_size]
  · simp [U.arr, Array.extract_append, Ent.arr_size]; rfl
theorem U.at1 (u : U) : u.arr[1]? = some (.int .i64 u.e.l) ∧ u.arr[2]? = some (.int .i64 u.e.s) ∧ u.arr[22]? = some (.int .i64 u.ser) := by
  unfold U.arr
  rw [Array.getElem?_append_left (by rw [Ent.arr_size]; omega), Array.getElem?_append_left (by rw [Ent.arr_size]; omega), Array.getElem?_append_right (by rw [Ent.arr_size]; omega), Ent.arr_size]
  exact ⟨rfl, rfl, rfl⟩
/-! ### a quiet region within a round -/
theorem quietIn_ {P : Program} {Q : Exit → Act → World → Prop} {r : Nat} {id : Nat} {a : Act} {w : World} {l : List Oper} (hm : P.follows .mixedOrders = true) (hB : Region.lexB .any l.toArray = true) (hnd : noDefer l.toArray = true) (hQ : ¬ LetsOut Q)
    (h : wpQuiet P l.toArray (fun w' => ∃ n, w' = w.drewN n) (fun a' => ∀ w', (∃ n, w' = w.drewN n) → Q .normal a' w') l a) : (Code.region id l.toArray true).wpIn (Fence.wide.inRound r) 0 P Q a w := by
  simp only [Region.lexB, Bool.and_eq_true] at hB
  refine wpIn_region_any hm (wpAny_in (noDefer_spec hnd) hQ _ _ _ _ (wpAny_of_quiet (C := fun w' => ∃ n, w' = w.drewN n) (Q := fun a' => ∀ w', (∃ n, w' = w.drewN n) → Q .normal a' w') (fun _ w' hw' h => h w' hw') _ _ _ _ ⟨1, rfl⟩ ?_))
  have := wpAnyQ_lex (C := fun w' => ∃ n, w' = w.drewN n) (md := .any) hB.1 l 0 (Array.replicate l.toArray.size false) a (by simp) (by simpa using hB.2) h
  simpa using this
/-! ### what a range over all updates keeps -/
structure OfJ (w : World) (n n₀ b3 p6 p7 p8 b19 b21 b23 : Nat) (pre : List U) (W : World) : Prop where
  b : Below w.heap.size w W
  z : n₀ ≤ W.heap.size
  h3 : W.heap[b3]? = some (.cells #[.int .i64 n] 3 (0, 0))
  h6 : W.heap[p6]? = some (.cells #[.slice (some ⟨b19, 0, none⟩) n n] 27 (0, 0))
  h7 : W.heap[p7]? = some (.cells #[.slice (some ⟨b21, 0, none⟩) n n] 28 (0, 0))
  h8 : W.heap[p8]? = some (.cells #[.slice (some ⟨b23, 0, none⟩) n n] 31 (0, 0))
  a19 : Arr W b19 37 19 ((esL n pre).map Ent.arr)
  a21 : Arr W b21 34 3 ((plL n pre).map Pl.arr)
  a23 : Arr W b23 3 1 ((seL n pre).map fun x => #[Value.int .i64 x])
theorem OfJ.keep {w : World} {n n₀ b3 p6 p7 p8 b19 b21 b23 : Nat} {pre : List U} {W W' : World} (h : OfJ w n n₀ b3 p6 p7 p8 b19 b21 b23 pre W) (hb : Below w.heap.size w W') (hz : W.heap.size ≤ W'.heap.size)
    (hk : ∀ (k : Nat) (cs : Array Value) (t : TypeId), W.heap[k]? = some (.cells cs t (0, 0)) → W'.heap[k]? = some (.cells cs t (0, 0))) : OfJ w n n₀ b3 p6 p7 p8 b19 b21 b23 pre W' :=
  ⟨hb, Nat.le_trans h.z hz, hk _ _ _ h.h3, hk _ _ _ h.h6, hk _ _ _ h.h7, hk _ _ _ h.h8, ⟨hk _ _ _ h.a19.hp, h.a19.sized⟩, ⟨hk _ _ _ h.a21.hp, h.a21.sized⟩, ⟨hk _ _ _ h.a23.hp, h.a23.sized⟩⟩
theorem OfJ.below {w : World} {n n₀ b3 p6 p7 p8 b19 b21 b23 : Nat} {pre : List U} {W W' : World} (h : OfJ w n n₀ b3 p6 p7 p8 b19 b21 b23 pre W) (hb : Below W.heap.size W W') : OfJ w n n₀ b3 p6 p7 p8 b19 b21 b23 pre W' :=
  h.keep (h.b.trans (hb.mono h.b.size)) hb.size (fun k cs t hk => (hb.block k (Array.getElem?_eq_some_iff.1 hk).1).trans hk)
theorem OfJ.grow {w : World} {n n₀ b3 p6 p7 p8 b19 b21 b23 : Nat} {pre : List U} {W W' : World} {row : Option Nat} (h : OfJ w n n₀ b3 p6 p7 p8 b19 b21 b23 pre W) (hg : W.grownBy W' row) (hr : ∀ r, row = some r → w.heap.size ≤ r ∧ ∃ o : Obj, W.heap[r]? = some o ∧ o.isCells = false) : OfJ w n n₀ b3 p6 p7 p8 b19 b21 b23 pre W' := by
  refine h.keep (below_grown h.b hg h.b.size (fun k e => (hr k e).1)) hg.size (fun k cs t hk => ?_)
  refine (hg.block k (Array.getElem?_eq_some_iff.1 hk).1 (fun e => ?_)).trans hk
  obtain ⟨_, o, ho, hc⟩ := hr k e.symm
  rw [hk] at ho
  cases ho
  simp [Obj.isCells] at hc
end Go.Proofs.Ytnihgfhaenpfkaa.Base
