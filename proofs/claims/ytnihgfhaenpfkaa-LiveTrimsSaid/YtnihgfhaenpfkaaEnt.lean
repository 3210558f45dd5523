/-
  An update (api.Entry) as a datum, and its cells; whole-variable rules at its type.
-/
import Derived.Test.YtnihgfhaenpfkaaProg
import Derived.Test.YtnihgfhaenpfkaaMem
import Derived.KernelRfl
namespace Go.Proofs.Ytnihgfhaenpfkaa.Base
set_option linter.unusedSimpArgs false
set_option linter.unusedVariables false
open Go.RowKit

structure Ent where
  k : Int
  l : Int
  s : Int
  d : Fin 16 → Int

theorem Ent.ext_iff' (e f : Ent) : (e.k = f.k ∧ e.l = f.l ∧ e.s = f.s ∧ ∀ i, e.d i = f.d i) ↔ e = f := by
  constructor
  · rintro ⟨h1, h2, h3, h4⟩
    cases e; cases f
    simp only at h1 h2 h3 h4
    subst h1 h2 h3
    congr 1
    exact funext h4
  · rintro rfl; exact ⟨rfl, rfl, rfl, fun _ => rfl⟩
instance : DecidableEq Ent := fun e f => decidable_of_iff _ (Ent.ext_iff' e f)

def Ent.data (e : Ent) : List Value := List.ofFn fun i => Value.int .u8 (e.d i)
def Ent.cells (e : Ent) : List Value := Value.int .i64 e.k :: .int .i64 e.l :: .int .i64 e.s :: e.data
def Ent.arr (e : Ent) : Array Value := e.cells.toArray
def Ent.zero : Ent := ⟨0, 0, 0, fun _ => 0⟩
theorem Ent.data_len (e : Ent) : e.data.length = 16 := by simp [Ent.data]
theorem Ent.cells_len (e : Ent) : e.cells.length = 19 := by simp [Ent.cells, Ent.data]
theorem Ent.arr_size (e : Ent) : e.arr.size = 19 := by simp [Ent.arr, Ent.cells_len]
theorem Ent.arr0 (e : Ent) : e.arr[0]? = some (.int .i64 e.k) := rfl
theorem Ent.arr1 (e : Ent) : e.arr[1]? = some (.int .i64 e.l) := rfl
theorem Ent.arr2 (e : Ent) : e.arr[2]? = some (.int .i64 e.s) := rfl
theorem Ent.set1 (e : Ent) (n : Int) : e.arr.setIfInBounds 1 (.int .i64 n) = ({ e with l := n } : Ent).arr := rfl
theorem Ent.set2 (e : Ent) (n : Int) : e.arr.setIfInBounds 2 (.int .i64 n) = ({ e with s := n } : Ent).arr := rfl
theorem Ent.one (e : Ent) : e.arr.all (·.oneCell') = true := by
  rw [Array.all_eq_true_iff_forall_mem]
  intro v hv
  simp only [Ent.arr, Ent.cells, Ent.data, List.mem_toArray, List.mem_cons, List.mem_ofFn] at hv
  rcases hv with rfl | rfl | rfl | ⟨i, rfl⟩ <;> rfl
theorem Ent.one' (e : Ent) : ∀ v ∈ e.cells, v.oneCell' = true := by
  have := e.one
  rw [Array.all_eq_true_iff_forall_mem] at this
  intro v hv
  exact this v (by simpa [Ent.arr] using hv)
/-- a literal with noughts for its bytes -/
theorem Ent.lit (k l s : Int) : (#[.int .i64 k, .int .i64 l, .int .i64 s, .int .u8 0, .int .u8 0, .int .u8 0, .int .u8 0, .int .u8 0, .int .u8 0, .int .u8 0, .int .u8 0, .int .u8 0, .int .u8 0, .int .u8 0, .int .u8 0, .int .u8 0, .int .u8 0, .int .u8 0, .int .u8 0] : Array Value) = (⟨k, l, s, fun _ => 0⟩ : Ent).arr := rfl
theorem Ent.arr_inj {e f : Ent} (h : e.arr = f.arr) : e = f := by
  cases e; cases f
  simp only [Ent.arr, Ent.cells, Ent.data] at h
  injection h with h
  simp only [List.cons.injEq, Value.int.injEq, true_and] at h
  obtain ⟨rfl, rfl, rfl, h⟩ := h
  congr 1
  funext i
  have := congrArg (fun l => l[i.1]?) h
  simp only [List.getElem?_ofFn, i.2, dite_true, Option.some.injEq, Value.int.injEq, true_and] at this
  exact this

theorem Ent.okW (e : Ent) : okW e.arr 19 = true := by
  unfold Proofs.Ytnihgfhaenpfkaa.Base.okW
  rw [e.one, e.arr_size]
  rfl

theorem Ent.sized (es : List Ent) : Sized 19 (es.map Ent.arr) := by
  intro x hx
  obtain ⟨e, _, rfl⟩ := List.mem_map.1 hx
  exact e.arr_size
theorem Ent.ones (es : List Ent) : Ones (es.map Ent.arr) := by
  intro x hx v hv
  obtain ⟨e, _, rfl⟩ := List.mem_map.1 hx
  exact e.one' v (by simpa [Ent.arr] using hv)

/-! ### the rules at this type -/
theorem ldV_ent (a : Addr) : loadVar 37 a = ldV 37 a := rfl
theorem stV_ent (a : Addr) (v : Value) : storeVar 37 a v = stV 37 a v := rfl
set_option maxRecDepth 100000 in
theorem info_ent : (Try.prog.info? 37).map (·.size) = some 19 := by kernel_rfl
set_option maxRecDepth 100000 in
theorem run_ldV_ent (w : World) (b o : Nat) : (ldV 37 ⟨b, o, none⟩).run Try.prog w = ldR Try.prog 37 ⟨b, o, none⟩ (rd w b o 19) w :=
  run_ldV Try.prog 37 19 _ Try.underlying37 rfl info_ent w b o
set_option maxRecDepth 100000 in
theorem run_stV_ent (w : World) (b o : Nat) (cs : Array Value) : (stV 37 ⟨b, o, none⟩ (.agg cs)).run Try.prog w =
    stR Try.prog 37 ⟨b, o, none⟩ (canW w b o 19 && okW cs 19) (.agg cs) w (wr w b o cs) :=
  run_stV Try.prog 37 19 info_ent w b o cs
set_option maxRecDepth 100000 in
theorem info_ent3 : (Try.prog.info? 37).map (fun i => (i.zero, i.size, i.bytes)) = some (some (.agg Ent.zero.arr), 19, 40) := by kernel_rfl
theorem bsS_ent (n : Nat) (ps : Array (Nat × Value)) : Instr.buildSlice 27 n ps = bsS 27 n ps := rfl
theorem run_bsS_ent (w : World) (e : Ent) : (bsS 27 1 #[(0, .agg e.arr)]).run Try.prog w = .ok (.slice (some ⟨w.heap.size, 0, none⟩) 1 1) (w.alloc (.cells e.arr 37)) := by
  obtain ⟨i0, hi0, hz0, hz1, hz2⟩ := info_parts info_ent3
  exact run_bsS_one w _ _ i0 _ 19 Try.underlying27 hi0 hz1 hz0 (by simp [Value.cells, Ent.arr_size]) (by omega) (by omega) e.arr e.arr_size

set_option maxRecDepth 100000 in
theorem run_equalIn_data (d : Nat) (e f : Ent) (w : World) : (Op.equalIn (d + 2) 35 (.agg e.data.toArray) (.agg f.data.toArray)).run Try.prog w = .ok (decide (∀ i, e.d i = f.d i)) w := by
  have hx : ∀ (e : Ent) (i : Nat), i < 16 → e.data.toArray[i]? = some (.int .u8 ((fun j => if h : j < 16 then e.d ⟨j, h⟩ else 0) i)) := by
    intro e i hi
    simp only [Ent.data, List.getElem?_toArray, List.getElem?_ofFn, hi, dite_true]
  have := run_equalIn_ints (P := Try.prog) d 35 5 16 _ .u8 Try.underlying35 Try.underlying5 (by kernel_rfl) _ _ _ _ (hx e) (hx f) w
  rw [this]
  congr 1
  rw [Bool.eq_iff_iff, List.all_eq_true, decide_eq_true_iff]
  constructor
  · intro h i
    have := h i.1 (by simp [i.2])
    simpa [i.2] using this
  · intro h i hi
    have hi' : i < 16 := by simpa using hi
    simp [hi', h ⟨i, hi'⟩]
def eqI (t : TypeId) (x y : Value) : Sem Bool := Op.equalIn 10000 t x y
theorem eqI_ent (x y : Value) : Op.equalIn 10000 37 x y = eqI 37 x y := rfl
set_option maxRecDepth 100000 in
theorem run_eqI_ent (e f : Ent) (w : World) : (eqI 37 (.agg e.arr) (.agg f.arr)).run Try.prog w = .ok (decide (e = f)) w := by
  unfold eqI
  rw [run_equalIn_struct (P := Try.prog) w 9999 37 _ _ (by kernel_rfl) (by kernel_rfl)]
  simp only [Program.fieldsOf, Try.underlying37]
  have hisa : ∀ w, (isAgg 35).run Try.prog w = .ok true w := fun w => by
    unfold isAgg
    rw [Sem.run_bind, run_underlying Try.underlying35 w]
    rfl
  have hsz : ∀ w, (sizeOf 35).run Try.prog w = .ok 16 w := fun w => by
    have : (Try.prog.info? 35).map (·.size) = some 16 := by kernel_rfl
    cases hq : Try.prog.info? 35 with
    | none => simp [hq] at this
    | some i => simp [sizeOf, typeInfo, hq]; simpa [hq] using this
  have hp : ∀ (e : Ent) w, (part 35 e.arr 3).run Try.prog w = .ok (.agg e.data.toArray) w := fun e w => by
    simp only [part, Sem.run_bind, hisa, hsz, Result.andThen_ok, if_true, Sem.run_pure]
    congr 2
  have p0 := fun (e : Ent) => run_part_int Try.underlying3 e.arr0 w
  have p1 := fun (e : Ent) => run_part_int Try.underlying3 e.arr1 w
  have p2 := fun (e : Ent) => run_part_int Try.underlying3 e.arr2 w
  have hd : (decide (e = f)) = (e.k == f.k && (e.l == f.l && (e.s == f.s && decide (∀ i, e.d i = f.d i)))) := by
    rw [Bool.eq_iff_iff]
    simp only [decide_eq_true_iff, Bool.and_eq_true, beq_iff_eq]
    exact (Ent.ext_iff' e f).symm
  rw [hd]
  have i0 : ∀ (a b : Int) w, (Op.equalIn 9999 3 (.int .i64 a) (.int .i64 b)).run Try.prog w = .ok (a == b) w := fun a b w => run_equalIn_int w 9998 3 .i64 .i64 a b Try.underlying3
  have id : (Op.equalIn 9999 35 (.agg e.data.toArray) (.agg f.data.toArray)).run Try.prog w = .ok (decide (∀ i, e.d i = f.d i)) w := run_equalIn_data 9997 e f w
  simp only [Op.eqFields, Sem.run_bind, p0, p1, p2, hp, Result.andThen_ok, i0, id]
  by_cases h0 : e.k = f.k <;> by_cases h1 : e.l = f.l <;> by_cases h2 : e.s = f.s <;> by_cases h3 : (∀ i, e.d i = f.d i) <;> simp [h0, h1, h2, h3, p0, p1, p2, hp, i0, id]
theorem run_bsS_ent0 (w : World) : (bsS 27 0 #[]).run Try.prog w = .ok (.slice (some ⟨w.heap.size, 0, none⟩) 0 0) (w.alloc (.cells #[] 37)) := by
  obtain ⟨i0, hi0, hz0, hz1, hz2⟩ := info_parts info_ent3
  exact run_bsS_zero w _ _ i0 Try.underlying27 hi0
/-- append onto a row of updates that the call owns -/
theorem run_append_ents (w : World) (base n : Nat) (v : Value) (es fs : List Ent) (hown : Ow w base 37 19 v (es.map Ent.arr)) (hn : es.length = n) (L B : Nat) (A : Option Addr) (m c : Nat) (hy : Sl w L B 19 A (fs.map Ent.arr)) (hm : fs.length = m)
    (hsm : n + m ≤ 1000000) (hbase : base ≤ w.heap.size) (ty : TypeId) :
    ∃ A' c' w', (Builtin.append_ #[27, 27] ty #[v, .slice A m c]).run Try.prog w = .ok (.slice A' (n + m) c') w' ∧ Ow w' base 37 19 (.slice A' (n + m) c') ((es ++ fs).map Ent.arr) ∧ w.grownBy w' v.ownBlock ∧ n + m ≤ c' := by
  obtain ⟨i0, hi0, hz0, hz1, hz2⟩ := info_parts info_ent3
  obtain ⟨A', c', w', h1, h2, h3, h4⟩ := run_append_ow (P := Try.prog) w base 27 ty 37 i0 _ 19 40 Try.underlying27 hi0 hz0 hz1 hz2 (by simp [Value.cells, Ent.arr_size]) (by omega) v (es.map Ent.arr) hown L B A m c (fs.map Ent.arr) hy
    (Ent.sized fs) (Ent.ones fs) (by simpa using hm) (by rw [List.length_map, hn]; unfold maxLen; omega) (by rw [List.length_map, hn]; omega) hbase
  rw [List.length_map, hn] at h1 h2 h4
  exact ⟨A', c', w', h1, by rw [List.map_append]; exact h2, h3, h4⟩
end Go.Proofs.Ytnihgfhaenpfkaa.Base
