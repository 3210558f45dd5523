/-
  Parts of a proof, laid together by a program of mine (pack.py): Pq.
-/
import Derived.Test.YtibileffpgnjhaaZC37
namespace Go.Proofs.Ytibileffpgnjhaa.Base
open Go.RowKit Go.Proofs.YtibileffpgnjhaaW.PrintWords Go.Proofs.YtibileffpgnjhaaW.PrintLast
open Go.Proofs.Ytibileffpgnjhaa.Fld Go.Proofs.Ytibileffpgnjhaa.Pl
set_option linter.unusedSimpArgs false
set_option linter.unusedVariables false
attribute [local go_sem] Ent.arr0 Ent.arr1 Ent.arr2 Ent.set1 Ent.set2 Ent.arr_size Ent.okW Ent.lit run_ldV_ent run_stV_ent ldR_some stR_true rd_new_whole rd_alloc canW_new canW_alloc wr_new wr_alloc rd_drew rd_drewN canW_drew canW_drewN run_bsS_ent run_bsS_ent0 run_eqI_ent rd_setCell rd_setCell_same canW_setCell' Option.map_some cell_wr_other rd_wr_same rd_wr_other
attribute [local go_sem ↓] ldV_ent stV_ent bsS_ent eqI_ent
attribute [local go_sem] Ent.arr0g Ent.arr1g Ent.arr2g run_ldV_dat rd_dat run_eqI_dat dat_lit
attribute [local go_sem ↓] ldV_dat eqI_dat
attribute [local go_sem] run_bdE4 run_bdE3 run_bdE1 run_bdE0
attribute [local go_sem ↓] build_ent
attribute [local go_sem] canW_wr_other Hd.arr_size Hd.arr0 Hd.arr0g Hd.okW Hd.lit run_ldV_hd run_stV_hd run_bdHd4 run_bdHd0
attribute [local go_sem ↓] ldV_hd stV_hd build_hd
structure QS (w0 : World) (P2 bb o n c P : Nat) (all : List Int) (hd : Hd) (en : Ent) (wr : World) : Prop where
  below : Below w0.heap.size w0 wr
  rd : QR wr (P2 + 2) (P2 + 2) bb o n c P all
  e2 : wr.heap[P2]? = some (.cells (⟨0, 0, 0, 0⟩ : Hd).arr 51 (0, 0))
  e3 : wr.heap[P2 + 1]? = some (.cells ({ k := 0, l := 0, s := 0, d := fun _ => 0 } : Ent).arr 44 (0, 0))
  e6 : wr.heap[P2 + 3]? = some (.cells hd.arr 51 (0, 0))
  e7 : wr.heap[P2 + 4]? = some (.cells en.arr 44 (0, 0))
  le : w0.heap.size ≤ P2
section
variable {w0 wr wr' : World} {P2 bb o n c P P' : Nat} {all : List Int} {hd hd' : Hd} {en en' : Ent}
theorem QS.call (h : QS w0 P2 bb o n c P all hd en wr) (hR : QR wr' (P2 + 2) (P2 + 2) bb o n c P' all) (hB : But (P2 + 2) wr wr') : QS w0 P2 bb o n c P' all hd en wr' := by
  have h1 := h.le
  have h2 := h.below.size
  have h4 := (Array.getElem?_eq_some_iff.1 h.e7).1
  exact ⟨hB.below h.below (by omega) (by omega), hR, hB.at_ h.e2 (by omega), hB.at_ h.e3 (by omega), hB.at_ h.e6 (by omega), hB.at_ h.e7 (by omega), h1⟩
theorem QS.head (h : QS w0 P2 bb o n c P all hd en wr) (i : Nat) (v : Value) (he : hd.arr.setIfInBounds i v = hd'.arr) : QS w0 P2 bb o n c P all hd' en (wr.setCell ⟨P2 + 3, i, none⟩ v) := by
  have h1 := h.le
  have h6 := heap_setCell_same wr (P2 + 3) i _ _ v h.e6
  rw [he] at h6
  exact ⟨h.below.setCell (by show w0.heap.size ≤ P2 + 3; omega) _, h.rd.but (g := P2 + 3) ⟨rfl, rfl, rfl, by simp, fun j hj hn => Below.heap_setCell _ _ _ _ hn⟩ (by omega), (Below.heap_setCell _ _ _ _ (by show P2 ≠ P2 + 3; omega)).trans h.e2, (Below.heap_setCell _ _ _ _ (by show P2 + 1 ≠ P2 + 3; omega)).trans h.e3, h6, (Below.heap_setCell _ _ _ _ (by show P2 + 4 ≠ P2 + 3; omega)).trans h.e7, h1⟩
theorem QS.ent (h : QS w0 P2 bb o n c P all hd en wr) (i : Nat) (v : Value) (he : en.arr.setIfInBounds i v = en'.arr) : QS w0 P2 bb o n c P all hd en' (wr.setCell ⟨P2 + 4, i, none⟩ v) := by
  have h1 := h.le
  have h7 := heap_setCell_same wr (P2 + 4) i _ _ v h.e7
  rw [he] at h7
  exact ⟨h.below.setCell (by show w0.heap.size ≤ P2 + 4; omega) _, h.rd.but (g := P2 + 4) ⟨rfl, rfl, rfl, by simp, fun j hj hn => Below.heap_setCell _ _ _ _ hn⟩ (by omega), (Below.heap_setCell _ _ _ _ (by show P2 ≠ P2 + 4; omega)).trans h.e2, (Below.heap_setCell _ _ _ _ (by show P2 + 1 ≠ P2 + 4; omega)).trans h.e3, (Below.heap_setCell _ _ _ _ (by show P2 + 3 ≠ P2 + 4; omega)).trans h.e6, h7, h1⟩
theorem QS.hc (h : QS w0 P2 bb o n c P all hd en wr) (i : Nat) (hi : i < 4) : (∃ v, wr.cell? ⟨P2 + 3, i, none⟩ = some v) ∧ wr.frozen? ⟨P2 + 3, i, none⟩ = false := by
  have : wr.cell? ⟨P2 + 3, i, none⟩ = hd.arr[i]? := by simp [World.cell?, h.e6]
  exact ⟨⟨_, this.trans (Array.getElem?_eq_getElem (by rw [Hd.arr_size]; omega))⟩, by simp [World.frozen?, h.e6]⟩
theorem QS.ec (h : QS w0 P2 bb o n c P all hd en wr) (i : Nat) (hi : i < 19) : (∃ v, wr.cell? ⟨P2 + 4, i, none⟩ = some v) ∧ wr.frozen? ⟨P2 + 4, i, none⟩ = false := by
  have : wr.cell? ⟨P2 + 4, i, none⟩ = en.arr[i]? := by simp [World.cell?, h.e7]
  exact ⟨⟨_, this.trans (Array.getElem?_eq_getElem (by rw [Ent.arr_size]; omega))⟩, by simp [World.frozen?, h.e7]⟩
end
theorem at_some {b : List Int} {i : Nat} (h : i < b.length) : b[i]? = some (at_ b i) := by
  rw [List.getElem?_eq_getElem h, at_lt h]
def PrR (o : Option (Hd × Ent)) (x : Ending) : Prop :=
  x = .returned (match o with | some (h, e) => .tuple #[.agg h.arr, .agg e.arr, .int .i64 0] | none => .tuple #[.agg Hd.zero.arr, .agg Ent.zero.arr, .int .i64 5])
theorem below_drewN {N : Nat} {w w' : World} (h : Below N w w') (m : Nat) : Below N w (w'.drewN m) := h.trans ⟨rfl, rfl, rfl, Nat.le_refl _, fun _ _ => rfl⟩
set_option maxRecDepth 100000 in
set_option maxHeartbeats 8000000 in
theorem rparse_b (A : Option Addr) (c l : Nat) (b : List Int) (w : World) (hl : l = 48) (hcc : 48 ≤ c) (h48 : b.length = 48) (hb : OkB b) (hs : Sl w 0 w.heap.size 1 A (By b)) :
    Calls Try.prog 21 #[.slice A l c] w fun x w' => PrR (parseB b) x ∧ Below w.heap.size w w' := by
  obtain ⟨bb, o, rfl, hjunk, hbb, hr⟩ := hs.pos (by rw [By.len]; omega)
  clear hjunk
  have hat : ∀ i (h : i < b.length), w.cell? ⟨bb, o + i, none⟩ = some (.int .u8 b[i]) := fun i h => by
    have := rd_cell (hr i (by rw [By.len]; exact h)) 0 (by omega)
    rw [Nat.mul_one, Nat.add_zero] at this
    rw [this]
    simp [By]
  clear hs hr
  have bt : ∀ n m, OkB ((b.drop n).take m) := fun n m x hx => hb x (List.mem_of_mem_drop (List.mem_of_mem_take hx))
  have bat : ∀ i, i < 48 → 0 ≤ at_ b i ∧ at_ b i < 256 := fun i hi => okB_at hb (by omega)
  have qi := fun (P base b' : Nat) (wr : World) h hP => qint_any base b' bb o 48 c P b _ wr h rfl hP (by omega) (bt P 8)
  have qb := fun (P base b' : Nat) (wr : World) (hP48 : P < 48) h hP => qbyte_any base b' bb o 48 c P b wr h hP (by omega) (at_ b P) (at_some (by omega)) (bat P hP48)
  have hpar : (fineB (wrap64 (leN ((b.drop 0).take 8))) (rawE (at_ b 11) ((b.drop 12).take 8) ((b.drop 20).take 8) ((b.drop 28).take 16)) (b.drop 44) → parseB b = some (⟨wrap64 (leN ((b.drop 0).take 8)), at_ b 8, at_ b 9, at_ b 10⟩, rawE (at_ b 11) ((b.drop 12).take 8) ((b.drop 20).take 8) ((b.drop 28).take 16))) ∧
      (¬ fineB (wrap64 (leN ((b.drop 0).take 8))) (rawE (at_ b 11) ((b.drop 12).take 8) ((b.drop 20).take 8) ((b.drop 28).take 16)) (b.drop 44) → parseB b = none) := by
    rw [List.drop_zero]
    exact ⟨fun h => if_pos h, fun h => if_neg h⟩
  have qi0 := qi 0
  have qi1 := qi 12
  have qi2 := qi 20
  obtain ⟨V0, hV0⟩ : ∃ v, v = wrap64 (leN ((b.drop 0).take 8)) := ⟨_, rfl⟩
  obtain ⟨V1, hV1⟩ : ∃ v, v = wrap64 (leN ((b.drop 12).take 8)) := ⟨_, rfl⟩
  obtain ⟨V2, hV2⟩ : ∃ v, v = wrap64 (leN ((b.drop 20).take 8)) := ⟨_, rfl⟩
  obtain ⟨D, hD⟩ : ∃ D, D = (b.drop 28).take 16 := ⟨_, rfl⟩
  have hrE : rawE (at_ b 11) ((b.drop 12).take 8) ((b.drop 20).take 8) ((b.drop 28).take 16) = ⟨at_ b 11, V1, V2, datL D⟩ := by rw [hV1, hV2, hD]; rfl
  rw [hrE, ← hV0] at hpar
  rw [← hV0] at qi0
  rw [← hV1] at qi1
  rw [← hV2] at qi2
  have hDl : D.length = 16 := by rw [hD, List.length_take, List.length_drop]; omega
  have hDa : ∀ i, i < 16 → at_ b (28 + i) = D.getD i 0 := fun i hi => by
    rw [hD, List.getD_eq_getElem?_getD, List.getElem?_take, if_pos hi, List.getElem?_drop]
    unfold at_
    rw [List.getD_eq_getElem?_getD]
  have hZ : ∀ j, j ≤ 4 → ((∀ z ∈ (b.drop 44).take j, z = 0) ↔ ∀ i, i < j → at_ b (44 + i) = 0) := fun j hj => by
    constructor
    · intro h i hi
      refine h _ (List.mem_iff_getElem?.2 ⟨i, ?_⟩)
      rw [List.getElem?_take, if_pos hi, List.getElem?_drop, at_some (by omega)]
    · intro h z hz
      obtain ⟨i, hi, rfl⟩ := List.getElem_of_mem hz
      have hi4 : i < j := by rw [List.length_take] at hi; omega
      have := h i hi4
      rw [at_lt (by omega)] at this
      simpa using this
  have hdr : (b.drop 44).take 4 = b.drop 44 := List.take_of_length_le (by rw [List.length_drop]; omega)
  clear qi hrE hV0 hV1 hV2 hD bt
  subst hl
  replace h48 := hide h48
  replace hb := hide hb
  replace hat := hide hat
  replace hpar := hide hpar
  replace hDl := hide hDl
  replace hDa := hide hDa
  replace hZ := hide hZ
  replace hdr := hide hdr
  replace bat := hide bat
  go_enter Try.func21, Try.ntmps21
  go_wp2_with fail
  obtain ⟨P2, hP2⟩ : ∃ P2, P2 = w.heap.size := ⟨_, rfl⟩
  (with_reducible refine (qnew_any bb o 48 c _).mono ?_)
  rintro e w3 ⟨rfl, rfl⟩
  go_wp2_with fail
  obtain ⟨W, hW⟩ : ∃ W, W = ((((w.alloc (.cells (⟨0, 0, 0, 0⟩ : Hd).arr 51)).alloc (.cells ({ k := 0, l := 0, s := 0, d := fun _ => 0 } : Ent).arr 44)).alloc (.cells #[.slice (some ⟨bb, o, none⟩) 48 c, .int .i64 0, .int .i64 0] 101)).alloc (.cells (⟨0, 0, 0, 0⟩ : Hd).arr 51)).alloc (.cells ({ k := 0, l := 0, s := 0, d := fun _ => 0 } : Ent).arr 44) := ⟨_, rfl⟩
  rw [← hW, ← hP2]
  have hS0 : QS w P2 bb o 48 c 0 b (⟨0, 0, 0, 0⟩ : Hd) ({ k := 0, l := 0, s := 0, d := fun _ => 0 } : Ent) W := by
    have nth : ∀ (w1 : World) (o1 : Obj) (k : Nat), k = w1.heap.size → (w1.alloc o1).heap[k]? = some o1 := fun w1 o1 k hk => by subst hk; exact heap_alloc_new _ _
    have old : ∀ (w1 : World) (o1 : Obj) (k : Nat), k < w1.heap.size → (w1.alloc o1).heap[k]? = w1.heap[k]? := fun w1 o1 k hk => Below.heap_alloc _ _ _ hk
    have hbel : Below w.heap.size w W := by rw [hW]; exact (((((Below.refl _ _).alloc (Nat.le_refl _) _).alloc (by simp) _).alloc (by simp; omega) _).alloc (by simp; omega) _).alloc (by simp; omega) _
    refine ⟨hbel, ⟨Nat.le_refl _, ?_, (unhide h48).symm, hcc, by omega, fun i hi => ?_⟩, ?_, ?_, ?_, ?_, by omega⟩
    · rw [hW, old _ _ _ (by simp; omega), old _ _ _ (by simp; omega), nth _ _ _ (by simp; omega)]; rfl
    · rw [World.cell?_of_block (hbel.block bb hbb)]; exact (unhide hat) i hi
    · rw [hW, old _ _ _ (by simp; omega), old _ _ _ (by simp; omega), old _ _ _ (by simp; omega), old _ _ _ (by simp; omega), nth _ _ _ (by omega)]
    · rw [hW, old _ _ _ (by simp; omega), old _ _ _ (by simp; omega), old _ _ _ (by simp; omega), nth _ _ _ (by simp; omega)]
    · rw [hW, old _ _ _ (by simp; omega), nth _ _ _ (by simp; omega)]
    · rw [hW, nth _ _ _ (by simp; omega)]
  clear hW
  replace hP2 := hide hP2
  (with_reducible refine (qi0 _ _ W hS0.rd (by omega)).mono ?_)
  rintro e w1 ⟨rfl, hR, hB⟩
  have hS := hS0.call hR hB
  obtain ⟨⟨vv, hcv⟩, hfv⟩ := hS.hc 0 (by omega)
  have hSn := hS.head (hd' := ⟨V0, 0, 0, 0⟩) 0 (.int .i64 V0) (by rfl)
  clear hS0 hR hB hS
  go_wp2_with fail
  generalize hWn : w1.setCell ⟨P2 + 3, 0, none⟩ (.int .i64 V0) = Wn at hSn ⊢
  clear hWn hcv hfv
  clear W
  obtain ⟨W, hWn⟩ : ∃ W, W = Wn := ⟨_, rfl⟩
  rw [← hWn] at hSn ⊢
  clear hWn
  have hS0 := hSn
  clear hSn
  (with_reducible refine (qb 8 _ _ W (by omega) hS0.rd (by omega)).mono ?_)
  rintro e w2 ⟨rfl, hR, hB⟩
  have hS := hS0.call hR hB
  obtain ⟨⟨vv, hcv⟩, hfv⟩ := hS.hc 1 (by omega)
  have hSn := hS.head (hd' := ⟨V0, at_ b 8, 0, 0⟩) 1 (.int .i64 (at_ b 8)) (by rfl)
  clear hS0 hR hB hS
  go_wp2_with fail
  generalize hWn : w2.setCell ⟨P2 + 3, 1, none⟩ (.int .i64 (at_ b 8)) = Wn at hSn ⊢
  clear hWn hcv hfv
  clear W
  obtain ⟨W, hWn⟩ : ∃ W, W = Wn := ⟨_, rfl⟩
  rw [← hWn] at hSn ⊢
  clear hWn
  have hS0 := hSn
  clear hSn
  (with_reducible refine (qb 9 _ _ W (by omega) hS0.rd (by omega)).mono ?_)
  rintro e w3 ⟨rfl, hR, hB⟩
  have hS := hS0.call hR hB
  obtain ⟨⟨vv, hcv⟩, hfv⟩ := hS.hc 2 (by omega)
  have hSn := hS.head (hd' := ⟨V0, at_ b 8, at_ b 9, 0⟩) 2 (.int .i64 (at_ b 9)) (by rfl)
  clear hS0 hR hB hS
  go_wp2_with fail
  generalize hWn : w3.setCell ⟨P2 + 3, 2, none⟩ (.int .i64 (at_ b 9)) = Wn at hSn ⊢
  clear hWn hcv hfv
  clear W
  obtain ⟨W, hWn⟩ : ∃ W, W = Wn := ⟨_, rfl⟩
  rw [← hWn] at hSn ⊢
  clear hWn
  have hS0 := hSn
  clear hSn
  (with_reducible refine (qb 10 _ _ W (by omega) hS0.rd (by omega)).mono ?_)
  rintro e w4 ⟨rfl, hR, hB⟩
  have hS := hS0.call hR hB
  obtain ⟨⟨vv, hcv⟩, hfv⟩ := hS.hc 3 (by omega)
  have hSn := hS.head (hd' := ⟨V0, at_ b 8, at_ b 9, at_ b 10⟩) 3 (.int .i64 (at_ b 10)) (by rfl)
  clear hS0 hR hB hS
  go_wp2_with fail
  generalize hWn : w4.setCell ⟨P2 + 3, 3, none⟩ (.int .i64 (at_ b 10)) = Wn at hSn ⊢
  clear hWn hcv hfv
  clear W
  obtain ⟨W, hWn⟩ : ∃ W, W = Wn := ⟨_, rfl⟩
  rw [← hWn] at hSn ⊢
  clear hWn
  have hS0 := hSn
  clear hSn
  (with_reducible refine (qb 11 _ _ W (by omega) hS0.rd (by omega)).mono ?_)
  rintro e w5 ⟨rfl, hR, hB⟩
  have hS := hS0.call hR hB
  obtain ⟨⟨vv, hcv⟩, hfv⟩ := hS.ec 0 (by omega)
  have hSn := hS.ent (en' := ⟨at_ b 11, 0, 0, fun _ => 0⟩) 0 (.int .i64 (at_ b 11)) (by rfl)
  clear hS0 hR hB hS
  go_wp2_with fail
  generalize hWn : w5.setCell ⟨P2 + 4, 0, none⟩ (.int .i64 (at_ b 11)) = Wn at hSn ⊢
  clear hWn hcv hfv
  clear W
  obtain ⟨W, hWn⟩ : ∃ W, W = Wn := ⟨_, rfl⟩
  rw [← hWn] at hSn ⊢
  clear hWn
  have hS0 := hSn
  clear hSn
  (with_reducible refine (qi1 _ _ W hS0.rd (by omega)).mono ?_)
  rintro e w6 ⟨rfl, hR, hB⟩
  have hS := hS0.call hR hB
  obtain ⟨⟨vv, hcv⟩, hfv⟩ := hS.ec 1 (by omega)
  have hSn := hS.ent (en' := ⟨at_ b 11, V1, 0, fun _ => 0⟩) 1 (.int .i64 V1) (by rfl)
  clear hS0 hR hB hS
  go_wp2_with fail
  generalize hWn : w6.setCell ⟨P2 + 4, 1, none⟩ (.int .i64 V1) = Wn at hSn ⊢
  clear hWn hcv hfv
  clear W
  obtain ⟨W, hWn⟩ : ∃ W, W = Wn := ⟨_, rfl⟩
  rw [← hWn] at hSn ⊢
  clear hWn
  have hS0 := hSn
  clear hSn
  (with_reducible refine (qi2 _ _ W hS0.rd (by omega)).mono ?_)
  rintro e w7 ⟨rfl, hR, hB⟩
  have hS := hS0.call hR hB
  obtain ⟨⟨vv, hcv⟩, hfv⟩ := hS.ec 2 (by omega)
  have hSn := hS.ent (en' := ⟨at_ b 11, V1, V2, fun _ => 0⟩) 2 (.int .i64 V2) (by rfl)
  clear hS0 hR hB hS
  go_wp2_with fail
  generalize hWn : w7.setCell ⟨P2 + 4, 2, none⟩ (.int .i64 V2) = Wn at hSn ⊢
  clear hWn hcv hfv
  clear W
  obtain ⟨W, hWn⟩ : ∃ W, W = Wn := ⟨_, rfl⟩
  rw [← hWn] at hSn ⊢
  clear hWn
  have hS0 := hSn
  clear hSn
  have hd0 : (⟨at_ b 11, V1, V2, fun _ => 0⟩ : Ent) = ⟨at_ b 11, V1, V2, datU D 0⟩ := by
    congr 1
  rw [hd0] at hS0
  clear hd0
  go_loopw [8] (fun s8 wr => ∃ i : Nat, i ≤ 16 ∧ s8 = .int .i64 i ∧ QS w P2 bb o 48 c (28 + i) b (⟨V0, at_ b 8, at_ b 9, at_ b 10⟩ : Hd) ⟨at_ b 11, V1, V2, datU D i⟩ wr) (fun s8 _ => 16 - (intOf s8).toNat)
  case atStart => exact ⟨0, by omega, rfl, hS0⟩
  case round =>
    clear hS0
    obtain ⟨i, hi, rfl, hS0⟩ := hrel
    by_cases hin : i < 16
    · have hinI : 0 ≤ (i : Int) ∧ (i : Int) < 16 := by omega
      have hq := qb (28 + i) _ _ wr (by omega) hS0.rd (by omega)
      have hyb := (unhide bat) (28 + i) (by omega)
      have hyD := (unhide hDa) i hin
      have hst := datU_step (at_ b 11) V1 V2 D i hin
      rw [← hyD] at hst
      obtain ⟨y, hy⟩ : ∃ y, y = at_ b (28 + i) := ⟨_, rfl⟩
      rw [← hy] at hq hyb hst
      clear hyD
      replace hst := hide hst
      replace hy := hide hy
      go_wp2_with fail
      (with_reducible refine hq.mono ?_)
      rintro e w8 ⟨rfl, hR, hB⟩
      have hS := hS0.call hR hB
      obtain ⟨⟨vv, hcv⟩, hfv⟩ := hS.ec (3 + i) (by omega)
      have hSn := hS.ent (en' := ⟨at_ b 11, V1, V2, datU D (i + 1)⟩) (3 + i) (.int .u8 y) (unhide hst)
      clear hS0 hR hB hS hq hst
      go_wp2_with fail
      go_roundw
      case rel => exact ⟨i + 1, by omega, by go_num, hSn⟩
      case measure => simp [intOf]; omega
    · have hi16 : i = 16 := by omega
      rw [show (i : Int) = 16 from by omega]
      rw [hi16, datU_all] at hS0
      clear hi16 hin hi
      go_wp2_with fail
      go_loopw [9, 10] (fun s9 s10 wr => ∃ (j : Nat) (f : Bool), j ≤ 4 ∧ s10 = .int .i64 j ∧ s9 = .bool f ∧ Hid (f = true ↔ ∀ i, i < j → at_ b (44 + i) = 0) ∧ QS w P2 bb o 48 c (44 + j) b (⟨V0, at_ b 8, at_ b 9, at_ b 10⟩ : Hd) (⟨at_ b 11, V1, V2, datL D⟩ : Ent) wr) (fun _ s10 _ => 4 - (intOf s10).toNat)
      case atStart => exact ⟨0, true, by omega, rfl, rfl, hide (by simp), hS0⟩
      case round =>
        clear hS0
        obtain ⟨j, f, hj, rfl, rfl, hf, hS0⟩ := hrel
        by_cases hjn : j < 4
        · have hjnI : 0 ≤ (j : Int) ∧ (j : Int) < 4 := by omega
          have hq := qb (44 + j) _ _ wr (by omega) hS0.rd (by omega)
          have hyb := (unhide bat) (44 + j) (by omega)
          obtain ⟨y, hy⟩ : ∃ y, y = at_ b (44 + j) := ⟨_, rfl⟩
          rw [← hy] at hq hyb
          have hf1 : ((decide (y = 0) && f) = true) ↔ ∀ i, i < j + 1 → at_ b (44 + i) = 0 := by
            rw [Bool.and_eq_true, decide_eq_true_eq, unhide hf]
            constructor
            · rintro ⟨h1, h2⟩ i hi
              by_cases e : i = j
              · subst e; rw [← hy]; exact h1
              · exact h2 i (by omega)
            · intro h
              exact ⟨by rw [hy]; exact h j (by omega), fun i hi => h i (by omega)⟩
          replace hf1 := hide hf1
          replace hy := hide hy
          go_wp2_with fail
          (with_reducible refine hq.mono ?_)
          rintro e w8 ⟨rfl, hR, hB⟩
          have hS := hS0.call hR hB
          clear hS0 hR hB hq
          by_cases hy0 : y = 0
          · have hd : decide (y = 0) = true := decide_eq_true hy0
            rw [hd, Bool.true_and] at hf1
            clear hd
            subst hy0
            go_wp2_with fail
            go_roundw
            case rel => exact ⟨j + 1, f, by omega, by go_num, rfl, hf1, hS⟩
            case measure => simp [intOf]; omega
          · have hd : decide (y = 0) = false := decide_eq_false hy0
            rw [hd, Bool.false_and] at hf1
            clear hd
            go_wp2_with fail
            go_roundw
            case rel => exact ⟨j + 1, false, by omega, by go_num, rfl, hf1, hS⟩
            case measure => simp [intOf]; omega
        · obtain rfl : j = 4 := by omega
          have hfZ : (f = true) ↔ ∀ z ∈ b.drop 44, z = 0 := by
            have := (unhide hZ) 4 (by omega)
            rw [unhide hdr] at this
            rw [this]; exact unhide hf
          replace hfZ := hide hfZ
          have hqe := qend_any _ _ bb o 48 c b wr hS0.rd
          go_wp2_with fail
          (with_reducible refine hqe.mono ?_)
          rintro e w9 ⟨rfl, m9, rfl⟩
          have e6 : (wr.drewN m9).heap[P2 + 3]? = some (.cells (⟨V0, at_ b 8, at_ b 9, at_ b 10⟩ : Hd).arr 51 (0, 0)) := hS0.e6
          have e7 : (wr.drewN m9).heap[P2 + 4]? = some (.cells (⟨at_ b 11, V1, V2, datL D⟩ : Ent).arr 44 (0, 0)) := hS0.e7
          have hPe2 : (wr.drewN m9).heap[P2]? = some (.cells (⟨0, 0, 0, 0⟩ : Hd).arr 51 (0, 0)) := hS0.e2
          have hPe3 : (wr.drewN m9).heap[P2 + 1]? = some (.cells ({ k := 0, l := 0, s := 0, d := fun _ => 0 } : Ent).arr 44 (0, 0)) := hS0.e3
          have hbE : Below w.heap.size w (wr.drewN m9) := below_drewN hS0.below m9
          have hP2w := hS0.le
          generalize wr.drewN m9 = W at e6 e7 hPe2 hPe3 hbE ⊢
          clear hS0 hqe wr
          have lt6 := (Array.getElem?_eq_some_iff.1 e6).1
          have lt7 := (Array.getElem?_eq_some_iff.1 e7).1
          have hc2 : canW W P2 0 4 = true := by simp [canW, hPe2, Hd.arr_size]
          have hc3 : canW W (P2 + 1) 0 19 = true := by simp [canW, hPe3, Ent.arr_size]
          have c60 : W.cell? ⟨P2 + 3, 0, none⟩ = some (.int .i64 V0) := by simp [World.cell?, e6, Hd.arr]
          have hr7 : rd W (P2 + 4) 0 19 = some (⟨at_ b 11, V1, V2, datL D⟩ : Ent).arr := by simp [rd, e7, Ent.arr_size]
          replace e6 := hide e6
          replace e7 := hide e7
          replace hPe2 := hide hPe2
          replace hPe3 := hide hPe3
          cases f with
          | false =>
            have hnf : Hid (¬ fineB V0 ⟨at_ b 11, V1, V2, datL D⟩ (b.drop 44)) := hide fun h => absurd ((unhide hfZ).2 h.1) (by simp)
            go_wp2_with fail
            refine bodyPost_ret (results_cct Try.results21 Try.underlying51 rfl info_hd Try.underlying44 rfl info_ent (cs := Hd.zero.arr) (cs' := Ent.zero.arr) rfl ((rd_wr_other _ _ _ _ _ _ _ (by omega)).trans (rd_wr_same _ _ _ _ _ rfl hc2)) rfl (rd_wr_same _ _ _ _ _ (Ent.arr_size _).symm (by rw [canW_wr_other _ _ _ _ _ _ _ (by omega)]; exact hc3))) rfl ⟨by rw [(unhide hpar).2 (unhide hnf)]; rfl, below_wr (below_wr hbE (by omega) _ _) (by omega) _ _⟩
          | true =>
            by_cases hv1 : V0 < 1
            · have hnf : Hid (¬ fineB V0 ⟨at_ b 11, V1, V2, datL D⟩ (b.drop 44)) := hide fun h => by have := h.2.1.1; omega
              have hd1 : decide (V0 < 1) = true := decide_eq_true hv1
              go_wp2_with fail
              refine bodyPost_ret (results_cct Try.results21 Try.underlying51 rfl info_hd Try.underlying44 rfl info_ent (cs := Hd.zero.arr) (cs' := Ent.zero.arr) rfl ((rd_wr_other _ _ _ _ _ _ _ (by omega)).trans (rd_wr_same _ _ _ _ _ rfl hc2)) rfl (rd_wr_same _ _ _ _ _ (Ent.arr_size _).symm (by rw [canW_wr_other _ _ _ _ _ _ _ (by omega)]; exact hc3))) rfl ⟨by rw [(unhide hpar).2 (unhide hnf)]; rfl, below_wr (below_wr hbE (by omega) _ _) (by omega) _ _⟩
            · by_cases hv2 : 1099511627776 < V0
              · have hnf : Hid (¬ fineB V0 ⟨at_ b 11, V1, V2, datL D⟩ (b.drop 44)) := hide fun h => by have := h.2.1.2; omega
                have hd1 : decide (V0 < 1) = false := decide_eq_false hv1
                have hd2 : decide (1099511627776 < V0) = true := decide_eq_true hv2
                go_wp2_with fail
                refine bodyPost_ret (results_cct Try.results21 Try.underlying51 rfl info_hd Try.underlying44 rfl info_ent (cs := Hd.zero.arr) (cs' := Ent.zero.arr) rfl ((rd_wr_other _ _ _ _ _ _ _ (by omega)).trans (rd_wr_same _ _ _ _ _ rfl hc2)) rfl (rd_wr_same _ _ _ _ _ (Ent.arr_size _).symm (by rw [canW_wr_other _ _ _ _ _ _ _ (by omega)]; exact hc3))) rfl ⟨by rw [(unhide hpar).2 (unhide hnf)]; rfl, below_wr (below_wr hbE (by omega) _ _) (by omega) _ _⟩
              · have hd1 : decide (V0 < 1) = false := decide_eq_false hv1
                have hd2 : decide (1099511627776 < V0) = false := decide_eq_false hv2
                go_wp2_with fail
                refine (rcheck_any (⟨at_ b 11, V1, V2, datL D⟩ : Ent) W).mono ?_
                rintro e wz ⟨rfl, hbz⟩
                have g2 := (hbz.block _ (by omega)).trans (unhide hPe2)
                have g3 := (hbz.block _ (by omega)).trans (unhide hPe3)
                have hbZ := hbE.trans (hbz.mono hbE.size)
                clear hc2 hc3 c60 hr7
                have hc2 : canW wz P2 0 4 = true := by simp [canW, g2, Hd.arr_size]
                have hc3 : canW wz (P2 + 1) 0 19 = true := by simp [canW, g3, Ent.arr_size]
                by_cases hok : OkE (⟨at_ b 11, V1, V2, datL D⟩ : Ent)
                · have hfine : fineB V0 ⟨at_ b 11, V1, V2, datL D⟩ (b.drop 44) := ⟨(unhide hfZ).1 (by first | trivial | rfl), by omega, hok⟩
                  rw [chk_yes hok]
                  have z6 : rd wz (P2 + 3) 0 4 = some (⟨V0, at_ b 8, at_ b 9, at_ b 10⟩ : Hd).arr := by
                    have := (hbz.block _ lt6).trans (unhide e6)
                    simp [rd, this, Hd.arr_size]
                  have z7 : rd wz (P2 + 4) 0 19 = some (⟨at_ b 11, V1, V2, datL D⟩ : Ent).arr := by
                    have := (hbz.block _ lt7).trans (unhide e7)
                    simp [rd, this, Ent.arr_size]
                  clear hPe2 hPe3 g2 g3 e6 e7 hbz hok
                  replace hfine := hide hfine
                  go_wp2_with fail
                  refine start_ (n := 5) (S := fun w' => (rd w' (P2 + 3) 0 4 = some (⟨V0, at_ b 8, at_ b 9, at_ b 10⟩ : Hd).arr ∧ rd w' (P2 + 4) 0 19 = some (⟨at_ b 11, V1, V2, datL D⟩ : Ent).arr) ∧ canW w' P2 0 4 = true ∧ canW w' (P2 + 1) 0 19 = true) (ds := []) #[false, false, false, false, false] (by kernel_rfl) rfl rfl (⟨⟨z6, z7⟩, hc2, hc3⟩) (fun hHeld => ?_)
                  refine take_ (i := 0) (N := some 85) (v := ?_) (a' := ?_) #[true, false, false, false, false] rfl rfl (by kernel_rfl) (fun _ _ _ h => h) (Or.inl ⟨by rfl, ?_⟩) hHeld ?_ ?_
                  rotate_left
                  · intro w' hs_; obtain ⟨⟨s0, s1⟩, s2, s3⟩ := hs_
                    go_simp
                    with_reducible rfl
                  rotate_left
                  · simp only [Act.put, List.setIfInBounds_toArray, List.set_cons_zero, List.set_cons_succ, i64_w, i32_w]
                    rfl
                  refine take_ (i := 1) (N := some 86) (v := ?_) (a' := ?_) #[true, true, false, false, false] rfl rfl (by kernel_rfl) (fun _ _ _ h => h) (Or.inl ⟨by rfl, ?_⟩) hHeld ?_ ?_
                  rotate_left
                  · intro w' hs_; obtain ⟨⟨s0, s1⟩, s2, s3⟩ := hs_
                    go_simp
                    with_reducible rfl
                  rotate_left
                  · simp only [Act.put, List.setIfInBounds_toArray, List.set_cons_zero, List.set_cons_succ, i64_w, i32_w]
                    rfl
                  refine one_ (i := 2) (N := none) #[true, true, true, false, false] rfl rfl (by kernel_rfl) (by decide) (fun K hK => ?_)
                  refine skip_ (w1 := Base.wr wz.drew P2 0 (⟨V0, at_ b 8, at_ b 9, at_ b 10⟩ : Hd).arr) (by rfl) rfl (by go_simp) ?_
                  refine hK.out _ _ ⟨⟨(rd_wr_other _ _ _ _ _ _ _ (by omega)).trans hHeld.1.1, (rd_wr_other _ _ _ _ _ _ _ (by omega)).trans hHeld.1.2⟩, (canW_wr _ _ _ _ _ _ _ hHeld.2.1).trans hHeld.2.1, (canW_wr_other _ _ _ _ _ _ _ (by omega)).trans hHeld.2.2⟩ (fun hHeld => ?_)
                  clear hK K
                  refine one_ (i := 3) (N := none) #[true, true, true, true, false] rfl rfl (by kernel_rfl) (by decide) (fun K hK => ?_)
                  refine skip_ (w1 := Base.wr (Base.wr wz.drew P2 0 (⟨V0, at_ b 8, at_ b 9, at_ b 10⟩ : Hd).arr) (P2 + 1) 0 (⟨at_ b 11, V1, V2, datL D⟩ : Ent).arr) (by rfl) rfl (by go_simp) ?_
                  refine hK.out _ _ ⟨⟨(rd_wr_other _ _ _ _ _ _ _ (by omega)).trans hHeld.1.1, (rd_wr_other _ _ _ _ _ _ _ (by omega)).trans hHeld.1.2⟩, (canW_wr_other _ _ _ _ _ _ _ (by omega)).trans hHeld.2.1, (canW_wr _ _ _ _ _ _ _ (by rw [Ent.arr_size]; exact hHeld.2.2)).trans hHeld.2.2⟩ (fun hHeld => ?_)
                  clear hK K
                  refine pure_ (i := 4) (N := some 4) (v := ?_) (a' := ?_) #[true, true, true, true, true] rfl rfl (by kernel_rfl) (fun _ _ _ h => h) (Or.inl ⟨by rfl, ?_⟩) ?_ ?_
                  rotate_left
                  · intro w'
                    go_simp
                    with_reducible rfl
                  rotate_left
                  · simp only [Act.put, List.setIfInBounds_toArray, List.set_cons_zero, List.set_cons_succ, i64_w, i32_w]
                    rfl
                  refine done_ (by kernel_rfl) ?_
                  have hd2 : canW wz.drew P2 0 4 = true := hc2
                  have hd3 : canW wz.drew (P2 + 1) 0 19 = true := hc3
                  have hbd : Below w.heap.size w wz.drew := hbZ.trans ⟨rfl, rfl, rfl, Nat.le_refl _, fun _ _ => rfl⟩
                  generalize wz.drew = wd at hd2 hd3 hbd ⊢
                  have r2 : rd (Base.wr (Base.wr wd P2 0 (⟨V0, at_ b 8, at_ b 9, at_ b 10⟩ : Hd).arr) (P2 + 1) 0 (⟨at_ b 11, V1, V2, datL D⟩ : Ent).arr) P2 0 4 = some (⟨V0, at_ b 8, at_ b 9, at_ b 10⟩ : Hd).arr := (rd_wr_other _ _ _ _ _ _ _ (by omega)).trans (rd_wr_same _ _ _ _ _ rfl hd2)
                  have r3 : rd (Base.wr (Base.wr wd P2 0 (⟨V0, at_ b 8, at_ b 9, at_ b 10⟩ : Hd).arr) (P2 + 1) 0 (⟨at_ b 11, V1, V2, datL D⟩ : Ent).arr) (P2 + 1) 0 19 = some (⟨at_ b 11, V1, V2, datL D⟩ : Ent).arr := rd_wr_same _ _ _ _ _ (Ent.arr_size _).symm (by rw [canW_wr_other _ _ _ _ _ _ _ (by omega)]; exact hd3)
                  have hbY2 : Below w.heap.size w (Base.wr (Base.wr wd P2 0 (⟨V0, at_ b 8, at_ b 9, at_ b 10⟩ : Hd).arr) (P2 + 1) 0 (⟨at_ b 11, V1, V2, datL D⟩ : Ent).arr) := below_wr (below_wr hbd (by omega) _ _) (by omega) _ _
                  generalize Base.wr (Base.wr wd P2 0 (⟨V0, at_ b 8, at_ b 9, at_ b 10⟩ : Hd).arr) (P2 + 1) 0 (⟨at_ b 11, V1, V2, datL D⟩ : Ent).arr = we at r2 r3 hbY2 ⊢
                  clear hd2 hd3 hbd
                  replace r2 := hide r2
                  replace r3 := hide r3
                  simp only [Exit.then]
                  apply_assumption
                  go_wp2_with fail
                  refine bodyPost_ret (results_cct Try.results21 Try.underlying51 rfl info_hd Try.underlying44 rfl info_ent rfl (unhide r2) rfl (unhide r3)) rfl ⟨by rw [(unhide hpar).1 (unhide hfine)]; rfl, hbY2⟩
                · have hnf : Hid (¬ fineB V0 ⟨at_ b 11, V1, V2, datL D⟩ (b.drop 44)) := hide fun h => hok h.2.2
                  rw [chk_no hok]
                  clear hbz hok
                  go_wp2_with fail
                  refine bodyPost_ret (results_cct Try.results21 Try.underlying51 rfl info_hd Try.underlying44 rfl info_ent (cs := Hd.zero.arr) (cs' := Ent.zero.arr) rfl ((rd_wr_other _ _ _ _ _ _ _ (by omega)).trans (rd_wr_same _ _ _ _ _ rfl hc2)) rfl (rd_wr_same _ _ _ _ _ (Ent.arr_size _).symm (by rw [canW_wr_other _ _ _ _ _ _ _ (by omega)]; exact hc3))) rfl ⟨by rw [(unhide hpar).2 (unhide hnf)]; rfl, below_wr (below_wr hbZ (by omega) _ _) (by omega) _ _⟩
end Go.Proofs.Ytibileffpgnjhaa.Base
