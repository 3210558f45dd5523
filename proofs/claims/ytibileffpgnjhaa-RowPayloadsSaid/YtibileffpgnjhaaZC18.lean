/-
  Parts of a proof, laid together by a program of mine (pack.py): Ss.
-/
import Derived.Lib.SliceRun
import Derived.Test.YtibileffpgnjhaaZC17
namespace Go.Proofs.Ytibileffpgnjhaa.Base
open Go.RowKit Go.Maps Go.Proofs.YtibileffpgnjhaaW.PrintWords Go.Proofs.YtibileffpgnjhaaW.PrintLast
open Go.Proofs.Ytibileffpgnjhaa.Fld Go.Proofs.Ytibileffpgnjhaa.Pl
set_option linter.unusedSimpArgs false
set_option linter.unusedVariables false
attribute [local go_sem] Ent.arr0 Ent.arr1 Ent.arr2 Ent.set1 Ent.set2 Ent.arr_size Ent.okW Ent.lit run_ldV_ent run_stV_ent ldR_some stR_true rd_new_whole rd_alloc canW_new canW_alloc wr_new wr_alloc rd_drew rd_drewN canW_drew canW_drewN run_bsS_ent run_bsS_ent0 run_eqI_ent rd_setCell rd_setCell_same canW_setCell' Option.map_some cell_wr_other rd_wr_same rd_wr_other
attribute [local go_sem ↓] ldV_ent stV_ent bsS_ent eqI_ent
attribute [local go_sem] Ent.arr0g Ent.arr1g Ent.arr2g run_ldV_dat rd_dat run_eqI_dat dat_lit
attribute [local go_sem ↓] ldV_dat eqI_dat
attribute [local go_sem] run_bdE4 run_bdE3 run_bdE1 run_bdE0
attribute [local go_sem ↓] build_ent
attribute [local go_sem] canW_wr_other Hd.arr_size Hd.arr0 Hd.arr0g Hd.okW Hd.lit run_ldV_hd run_stV_hd run_bdHd4 run_bdHd0
attribute [local go_sem ↓] ldV_hd stV_hd build_hd
open Classical in
/-- a slot's bytes: head and update -/
noncomputable def parseB (b : List Int) : Option (Hd × Ent) :=
  if fineB (wrap64 (leN (b.take 8))) (rawE (at_ b 11) ((b.drop 12).take 8) ((b.drop 20).take 8) ((b.drop 28).take 16)) (b.drop 44)
  then some (⟨wrap64 (leN (b.take 8)), at_ b 8, at_ b 9, at_ b 10⟩, rawE (at_ b 11) ((b.drop 12).take 8) ((b.drop 20).take 8) ((b.drop 28).take 16)) else none
theorem okB_at {b : List Int} (hb : OkB b) {i : Nat} (h : i < b.length) : 0 ≤ at_ b i ∧ at_ b i < 256 := by
  have : at_ b i = b[i] := by unfold at_; simp [h]
  rw [this]
  exact hb _ (List.getElem_mem h)
theorem eqI_hd (x y : Value) : Op.equalIn 10000 51 x y = eqI 51 x y := rfl
set_option maxRecDepth 100000 in
theorem run_eqI_hd (e f : Hd) (w : World) : (eqI 51 (.agg e.arr) (.agg f.arr)).run Try.prog w = .ok (decide (e = f)) w := by
  unfold eqI
  rw [run_equalIn_struct (P := Try.prog) w 9999 51 _ _ (by kernel_rfl) (by kernel_rfl)]
  simp only [Program.fieldsOf, Try.underlying51]
  have p0 := fun (e : Hd) => run_part_int Try.underlying3 e.arr0 w
  have p1 := fun (e : Hd) => run_part_int Try.underlying3 e.arr1 w
  have p2 := fun (e : Hd) => run_part_int Try.underlying3 e.arr2 w
  have p3 := fun (e : Hd) => run_part_int Try.underlying3 e.arr3 w
  have hd : (decide (e = f)) = (e.a == f.a && (e.b == f.b && (e.c == f.c && (e.d == f.d)))) := by
    rw [Bool.eq_iff_iff]
    simp only [decide_eq_true_iff, Bool.and_eq_true, beq_iff_eq]
    exact (Hd.ext_iff' e f).symm
  rw [hd]
  have i0 : ∀ (a b : Int) w, (Op.equalIn 9999 3 (.int .i64 a) (.int .i64 b)).run Try.prog w = .ok (a == b) w := fun a b w => run_equalIn_int w 9998 3 .i64 .i64 a b Try.underlying3
  simp only [Op.eqFields, Sem.run_bind, p0, p1, p2, p3, Result.andThen_ok, i0]
  by_cases h0 : e.a = f.a <;> by_cases h1 : e.b = f.b <;> by_cases h2 : e.c = f.c <;> by_cases h3 : e.d = f.d <;> simp [h0, h1, h2, h3, p0, p1, p2, p3, i0]
attribute [local go_sem] run_eqI_hd
attribute [local go_sem ↓] eqI_hd
/-- what stands while slots are read: the result's place, the row's, the slots so far -/
structure SlS (w0 : World) (P : Nat) (ser a : Int) (A4 : Option Addr) (j c4 : Nat) (es : List Ent) (wr : World) : Prop where
  below : Below w0.heap.size w0 wr
  le : w0.heap.size ≤ P
  e6 : wr.heap[P]? = some (.cells #[.int .i64 0, .int .i64 0, .slice none 0 0] 37 (0, 0))
  e8 : wr.heap[P + 1]? = some (.cells #[.int .i64 ser, .int .i64 a, .slice A4 j c4] 37 (0, 0))
  own : Ow wr (P + 2) 44 19 (.slice A4 j c4) (es.map Ent.arr)
  cap : j ≤ c4
  len : es.length = j
theorem SlS.lt {w0 : World} {P : Nat} {ser a : Int} {A4 : Option Addr} {j c4 : Nat} {es : List Ent} {wr : World} (h : SlS w0 P ser a A4 j c4 es wr) : P + 2 ≤ wr.heap.size := (Array.getElem?_eq_some_iff.1 h.e8).1
theorem SlS.on {w0 : World} {P : Nat} {ser a : Int} {A4 : Option Addr} {j c4 : Nat} {es : List Ent} {wr w' : World} (h : SlS w0 P ser a A4 j c4 es wr) (hb : Below wr.heap.size wr w') : SlS w0 P ser a A4 j c4 es w' :=
  have h1 := h.lt
  ⟨h.below.trans (hb.mono (by have := h.le; omega)), h.le, (hb.block _ (by omega)).trans h.e6, (hb.block _ (by omega)).trans h.e8, h.own.below hb (fun g e => (h.own.lt g e).2), h.cap, h.len⟩
theorem SlS.app {w0 : World} {P : Nat} {ser a : Int} {A4 : Option Addr} {j c4 : Nat} {es : List Ent} {W : World} (h : SlS w0 P ser a A4 j c4 es W) (e : Ent) (hj : j ≤ 100) : ∃ A6 c6 w6,
    (Builtin.append_ #[22, 22] 22 #[.slice A4 j c4, .slice (some ⟨W.heap.size, 0, none⟩) 1 1]).run Try.prog (W.alloc (.cells e.arr 44)) = .ok (.slice A6 (j + 1) c6) w6 ∧ w6.cell? ⟨P + 1, 2, none⟩ = some (.slice A4 j c4) ∧ w6.frozen? ⟨P + 1, 2, none⟩ = false ∧
      SlS w0 P ser a A6 (j + 1) c6 (es ++ [e]) (w6.setCell ⟨P + 1, 2, none⟩ (.slice A6 (j + 1) c6)) := by
  have h1 := h.lt
  have h2 := h.le
  obtain ⟨A6, c6, w6, hrun, ho, hg, hc⟩ := run_append_ents (W.alloc (.cells e.arr 44)) (P + 2) j (.slice A4 j c4) es [e] (h.own.alloc _) h.len 0 (W.heap.size + 1) (some ⟨W.heap.size, 0, none⟩) 1 1 (Sl.one (rd_new_whole _ _ _ _ _ _ rfl (Ent.arr_size _).symm) (Nat.zero_le _) (Nat.lt_succ_self _)) rfl (by omega) (by simp; omega) 22
  have hne : ∀ k, k < P + 2 → some k ≠ (Value.slice A4 j c4).ownBlock := fun k hk e => by have := (h.own.lt k e.symm).1; omega
  have hk : ∀ k, k < P + 2 → w6.heap[k]? = W.heap[k]? := fun k hk => (hg.block k (by simp; omega) (hne k hk)).trans (Below.heap_alloc _ _ _ (by omega))
  have e8 := (hk (P + 1) (by omega)).trans h.e8
  have hb : Below w0.heap.size w0 w6 := below_grown (h.below.alloc (by omega) _) hg (by simp; omega) (fun k ek => by have := (h.own.lt k ek).1; omega)
  refine ⟨A6, c6, w6, hrun, by simp [World.cell?, e8], by simp [World.frozen?, e8], hb.setCell (by show w0.heap.size ≤ P + 1; omega) _, h2, (Below.heap_setCell _ _ _ _ (by show P ≠ P + 1; omega)).trans ((hk P (by omega)).trans h.e6), heap_setCell_same _ _ _ _ _ _ e8, ho.setCell (by show P + 1 < P + 2; omega) _, hc, by rw [List.length_append, h.len]; rfl⟩
end Go.Proofs.Ytibileffpgnjhaa.Base
