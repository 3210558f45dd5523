/-
  The walks of package buffer.
-/
import Derived.Test.YtpblhedmfeddbaaEnt
import Derived.Deep.RegionHeld3
namespace Go.Proofs.Ytpblhedmfeddbaa.Base
set_option linter.unusedSimpArgs false
set_option linter.unusedVariables false
open Go.RowKit
attribute [local go_sem] Ent.arr0 Ent.arr1 Ent.arr2 Ent.set1 Ent.set2 Ent.arr_size Ent.okW Ent.lit run_ldV_ent run_stV_ent ldR_some stR_true rd_new_whole rd_alloc canW_new canW_alloc wr_new wr_alloc rd_drew rd_drewN canW_drew canW_drewN run_bsS_ent
attribute [local go_sem ↓] ldV_ent stV_ent bsS_ent

def findE (es : List Ent) (lba : Int) : Ent × Bool :=
  match es.reverse.find? (fun e => decide (e.l = lba)) with
  | some e => (e, true)
  | none => (Ent.zero, false)
theorem findE_some (es : List Ent) (lba : Int) (k : Nat) (hk : k < es.length) (h : es[k].l = lba) (hn : ∀ j (hj : j < es.length), k < j → es[j].l ≠ lba) : findE es lba = (es[k], true) := by
  have : es.reverse.find? (fun e => decide (e.l = lba)) = some es[k] := by
    rw [List.find?_eq_some_iff_getElem]
    refine ⟨by simpa using h, es.length - 1 - k, by simp; omega, by simp; congr 1; omega, ?_⟩
    intro j hj
    simp only [List.getElem_reverse]
    simpa using hn _ (by omega) (by omega)
  simp [findE, this]
theorem findE_none (es : List Ent) (lba : Int) (h : ∀ j (hj : j < es.length), es[j].l ≠ lba) : findE es lba = (Ent.zero, false) := by
  have : es.reverse.find? (fun e => decide (e.l = lba)) = none := by
    rw [List.find?_eq_none]
    intro x hx
    rw [List.mem_reverse, List.mem_iff_getElem] at hx
    obtain ⟨j, hj, rfl⟩ := hx
    simpa using h j hj
  simp [findE, this]

set_option maxHeartbeats 400000 in
theorem find_any (A : Option Addr) (c : Nat) (next lba : Int) (w : World) (es : List Ent) (hn : es.length ≤ 1000000) (hs : Sl w 0 w.heap.size 19 A (es.map Ent.arr)) :
    Calls Try.prog 14 #[.agg #[.slice A es.length c, .int .i64 next], .int .i64 lba] w fun e w' =>
      e = .returned (.tuple #[.agg (findE es lba).1.arr, .bool (findE es lba).2]) ∧ Below w.heap.size w w' := by
  go_enter Try.func14, Try.ntmps14
  go_wp2
  go_loop [6] (fun i => ∃ k : Nat, k ≤ es.length ∧ i = .int .i64 ((k : Int) - 1) ∧ ∀ j (hj : j < es.length), k ≤ j → es[j].l ≠ lba) (fun i => (intOf i + 1).toNat)
  case atStart => exact ⟨es.length, by omega, rfl, fun j hj h => by omega⟩
  case round =>
    obtain ⟨k, hk, rfl, hno⟩ := hrel
    by_cases hk0 : k = 0
    · subst hk0
      have hf := hide (findE_none es lba (fun j hj => hno j hj (by omega)))
      clear hno
      go_wp2
      refine bodyPost_ret (results_ct Try.results14 Try.underlying29 rfl info_ent (cs := Ent.zero.arr) rfl (rd_new_whole _ _ _ _ _ _ (by simp) (Ent.arr_size _).symm)) rfl ?_
      rw [(unhide hf)]
      exact ⟨rfl, ((Below.refl _ w).alloc (Nat.le_refl _) _).alloc (by simp) _⟩
    · obtain ⟨k, rfl⟩ : ∃ m, k = m + 1 := ⟨k - 1, by omega⟩
      have e1 : ((k + 1 : Nat) : Int) - 1 = (k : Int) := by omega
      rw [e1]
      obtain ⟨b, o, rfl, _, hlt, hr⟩ := hs.at_ (k := k) (by simp; omega)
      have hc1 := rd_cell hr 1 (by omega)
      simp only [List.getElem_map, Ent.arr1] at hr hc1
      by_cases hl : es[k].l = lba
      · have hf := hide (findE_some es lba k (by omega) hl (fun j hj h => hno j hj (by omega)))
        clear hno
        subst hl
        go_wp2
        refine bodyPost_ret (results_ct Try.results14 Try.underlying29 rfl info_ent (cs := es[k].arr) rfl (rd_new_whole _ _ _ _ _ _ (by simp) (Ent.arr_size _).symm)) rfl ?_
        rw [(unhide hf)]
        exact ⟨rfl, ((Below.refl _ w).alloc (Nat.le_refl _) _).alloc (by simp) _⟩
      · replace hno := hide hno
        go_wp2
        refine ⟨⟨k, by omega, rfl, ?_⟩, by simp [intOf]⟩
        intro j hj hkj
        by_cases e : j = k
        · subst e; exact hl
        · exact (unhide hno) j hj (by omega)

theorem make_ent (n c : Nat) (hnc : n ≤ c) (hc : c ≤ 1000001) (W : World) :
    (Instr.makeSlice 22 (.int .i64 (n : Int)) (.int .i64 (c : Int))).run Try.prog W = .ok (.slice (some ⟨W.heap.size, 0, none⟩) n c) (W.alloc (.cells (madeCells Ent.zero.arr (c * 19)) 29)) := by
  obtain ⟨i0, hi0, hz0, hz1, hz2⟩ := info_parts info_ent3
  have := run_make (P := Try.prog) W 22 29 i0 _ Try.underlying22 hi0 hz0 .i64 .i64 (n : Int) (c : Int) (by omega) (by omega) (by rw [hz2]; omega) (by omega)
  simpa [hz1, Value.cells] using this

set_option maxHeartbeats 400000 in
theorem part_any (A : Option Addr) (c : Nat) (w : World) (es : List Ent) (i j : Nat) (hij : i ≤ j) (hj : j ≤ es.length) (hc : es.length ≤ c) (hn : es.length ≤ 1000000) (hs : Sl w 0 w.heap.size 19 A (es.map Ent.arr)) :
    Calls Try.prog 32 #[.agg #[.slice A es.length c], .int .i64 i, .int .i64 j] w fun e w' =>
      (∃ A', e = .returned (.slice A' (j - i) (j - i)) ∧ Sl w' w.heap.size w'.heap.size 19 A' (((es.drop i).take (j - i)).map Ent.arr)) ∧ Below w.heap.size w w' := by
  have hij' : (i : Int) ≤ (j : Int) := by omega
  have hjn : (j : Int) ≤ (es.length : Int) := by omega
  have hjc : (j : Int) ≤ (c : Int) := by omega
  have hmk := fun W => make_ent (j - i) (j - i) (Nat.le_refl _) (by omega) W
  have e1 : ((j - i : Nat) : Int) = (j : Int) - (i : Int) := by omega
  rw [e1] at hmk
  replace e1 := hide e1
  by_cases hlt : i = j
  · subst hlt
    clear hmk
    have hmk : ∀ W, (Instr.makeSlice 22 (.int .i64 0) (.int .i64 0)).run Try.prog W = .ok (.slice (some ⟨W.heap.size, 0, none⟩) 0 0) (W.alloc (.cells (madeCells Ent.zero.arr 0) 29)) := fun W => by
      simpa using make_ent 0 0 (by omega) (by omega) W
    go_enter Try.func32, Try.ntmps32
    by_cases hci : c = i
    all_goals
      go_wp2_with fail
      rw [run_copy_sl _ _ _ _ 29 19 Try.underlying22 info_ent _ _ _ _ _ _ _ [] 0 0 Sl.nil (Ent.sized []) (Ent.ones []) rfl (by simp [canW_new])]
      go_wp2
      go_ret
      simp only [Nat.sub_self, List.take_zero, List.map_nil]
      exact ⟨⟨_, rfl, Sl.nil⟩, below_of_wr (((Below.refl _ w).alloc (Nat.le_refl _) _).alloc (by simp) _) (by omega) _⟩
  · go_enter Try.func32, Try.ntmps32
    go_wp2_with fail
    have hsl : Sl w 0 w.heap.size 19 (Option.map (fun x => x.add (i * 19)) A) (((es.drop i).take (j - i)).map Ent.arr) := by
      have := (hs.cut i).take (j - i)
      rwa [← List.map_drop, ← List.map_take] at this
    have hlen : (((es.drop i).take (j - i)).map Ent.arr).length = j - i := by simp; omega
    have hcw : canW ((w.alloc (Obj.cells #[Value.slice A es.length c] 70)).alloc (Obj.cells (madeCells Ent.zero.arr ((j - i) * 19)) 29)) (w.heap.size + 1) 0 ((((es.drop i).take (j - i)).map Ent.arr).length * 19) = true :=
      canW_new _ _ _ _ _ _ (by simp) (by rw [hlen, size_madeCells]; omega)
    rw [run_copy_sl _ _ _ _ 29 19 Try.underlying22 info_ent _ _ _ _ _ _ _ (((es.drop i).take (j - i)).map Ent.arr) 0 w.heap.size ((hsl.alloc (Nat.le_refl _) _).alloc (by simp) _)
      (Ent.sized _) (Ent.ones _) (by rw [hlen]; exact (Nat.min_self _).symm) hcw]
    go_wp2
    go_ret
    refine ⟨⟨_, rfl, ?_⟩, ?_⟩
    · have := Sl.of_wr (L := w.heap.size) (B := w.heap.size + 2) (Ent.sized _) (by omega) hcw (by omega) (by omega)
      rw [size_wr]
      simpa using this
    exact below_of_wr (((Below.refl _ w).alloc (Nat.le_refl _) _).alloc (by simp) _) (by omega) _

set_option maxHeartbeats 400000 in
theorem with_any (A : Option Addr) (c : Nat) (w : World) (es : List Ent) (e : Ent) (hc : es.length ≤ c) (hn : es.length ≤ 1000000) (hs : Sl w 0 w.heap.size 19 A (es.map Ent.arr)) :
    Calls Try.prog 31 #[.agg #[.slice A es.length c], .agg e.arr] w fun e' w' =>
      (∃ A' c', e' = .returned (.slice A' (es.length + 1) c') ∧ es.length + 1 ≤ c' ∧ Sl w' w.heap.size w'.heap.size 19 A' ((es ++ [e]).map Ent.arr)) ∧ Below w.heap.size w w' := by
  have hmk := fun W => make_ent es.length (es.length + 1) (by omega) (by omega) W
  have e1 : ((es.length + 1 : Nat) : Int) = (es.length : Int) + 1 := by omega
  rw [e1] at hmk
  replace e1 := hide e1
  go_enter Try.func31, Try.ntmps31
  go_wp2_with fail
  have hcw : canW (((w.alloc (Obj.cells #[Value.slice A es.length c] 70)).alloc (.cells e.arr 29)).alloc (Obj.cells (madeCells Ent.zero.arr ((es.length + 1) * 19)) 29)) (w.heap.size + 1 + 1) 0 ((es.map Ent.arr).length * 19) = true :=
    canW_new _ _ _ _ _ _ (by simp) (by rw [size_madeCells, List.length_map]; omega)
  rw [run_copy_sl _ _ _ _ 29 19 Try.underlying22 info_ent _ _ _ _ _ _ _ (es.map Ent.arr) 0 w.heap.size (((hs.alloc (Nat.le_refl _) _).alloc (by simp) _).alloc (by simp; omega) _)
      (Ent.sized _) (Ent.ones _) (by simp) hcw]
  go_wp2_with fail
  replace hcw := hide hcw
  obtain ⟨W, hW⟩ : ∃ W, W = wr (((w.alloc (Obj.cells #[Value.slice A es.length c] 70)).alloc (.cells e.arr 29)).alloc (Obj.cells (madeCells Ent.zero.arr ((es.length + 1) * 19)) 29)) (w.heap.size + 1 + 1) 0 (flat (es.map Ent.arr)).toArray := ⟨_, rfl⟩
  have fz : W.heap.size = w.heap.size + 3 := by rw [hW, size_wr]; simp
  have fb : Below w.heap.size w W := by rw [hW]; exact below_wr ((((Below.refl _ w).alloc (Nat.le_refl _) _).alloc (by simp) _).alloc (by simp; omega) _) (by omega) _ _
  have f1 : W.cell? ⟨w.heap.size, 0, none⟩ = some (.slice A es.length c) := by
    rw [hW, cell_wr_other _ _ _ _ _ (by simp; omega)]; go_simp
  have f2 : rd W (w.heap.size + 1) 0 19 = some e.arr := by
    rw [hW, rd_wr_other _ _ _ _ _ _ _ (by omega), rd_alloc _ _ _ _ _ (by simp), rd_new_whole _ _ _ _ _ _ (by simp) (by simp [Ent.arr_size])]
  have f3 : rd W (w.heap.size + 1 + 1) 0 (es.length * 19) = some (flat (es.map Ent.arr)).toArray := by
    rw [hW]; exact rd_wr_same _ _ _ _ _ (by simp [flat_len (Ent.sized es)]) (by have := unhide hcw; rwa [List.length_map] at this)
  have f4 : canW W (w.heap.size + 1 + 1) 0 ((es.length + 1) * 19) = true := by
    rw [hW, canW_wr _ _ _ _ _ _ _ (by rw [flat_size (Ent.sized es)]; exact unhide hcw)]
    exact canW_new _ _ _ _ _ _ (by simp) (by simp [size_madeCells])
  rw [← hW]
  clear hW
  replace fz := hide fz
  have hlW : w.heap.size + 2 < W.heap.size := by have := unhide fz; omega
  have g1 : IntKind.i64.wrap ((es.length : Int) + 1) = (es.length : Int) + 1 := IntWalk.i64_in _ (by omega)
  have g2 : ((es.length : Int) + 1).toNat = es.length + 1 := by omega
  have g3 : (0 : Int) ≤ (es.length : Int) + 1 := by omega
  have g4 : (es.length : Int) ≤ (es.length : Int) + 1 := by omega
  have g5 : ¬ (es.length : Int) + 1 < (es.length : Int) := by omega
  have hcx : canW (W.alloc (Obj.cells e.arr 29)).drew (w.heap.size + 1 + 1) (0 + es.length * 19) ([e.arr].length * 19) = true := by
    rw [canW_drew, canW_alloc _ _ _ _ _ (by omega)]
    exact canW_part f4 _ _ (by simp; omega)
  have hsn : rd (W.alloc (Obj.cells e.arr 29)).drew W.heap.size 0 19 = some e.arr := rd_new_whole _ _ _ _ _ _ rfl (by simp [Ent.arr_size])
  replace f4 := hide f4
  replace hcx := hide hcx
  replace hsn := hide hsn
  replace f3 := hide f3
  go_region_held3 (fun w' => Below (w.heap.size + 2) W w' ∧ (∀ b o, b < w.heap.size + 2 → w'.cell? ⟨b, o, none⟩ = W.cell? ⟨b, o, none⟩) ∧ (∀ b o n, b < w.heap.size + 2 → rd w' b o n = rd W b o n))
    (first | with_reducible exact keepS (below_wr ((Below.refl _ _).alloc (by omega) _).drew (by omega) _ _) | with_reducible exact keepS (Below.refl _ _).drew | with_reducible exact keepS ((Below.refl _ _).alloc (by omega) _).drew)
    (first | (refine step_append_of_run rfl (.tmp 26) (.tmp 28) 22 rfl _ _ (run_append_sl _ _ _ _ 19 Try.underlying22 info_ent _ _ _ _ _ _ _ [e.arr] 0 (W.heap.size + 1) (Sl.one (unhide hsn) (by omega) (by omega)) (Ent.sized [e]) (Ent.ones [e]) rfl (by omega) (unhide hcx)) ?_))
  go_wp2
  go_ret
  simp only [List.map_append, List.map_cons, List.map_nil]
  refine ⟨⟨_, _, rfl, Nat.le_refl _, ?_⟩, below_wr (fb.alloc (by omega) _).drew (by omega) _ _⟩
  refine Sl.of_rd ((Ent.sized es).append (Ent.sized [e])) ?_ (by omega) (by rw [size_wr]; show _ < (W.alloc _).heap.size; simp; omega)
  have hfl : (flat [e.arr]).toArray.size = 19 := flat_size (Ent.sized [e])
  have hcy : canW (W.alloc (Obj.cells e.arr 29)).drew (w.heap.size + 1 + 1) (0 + es.length * 19) (flat [e.arr]).toArray.size = true := by rw [hfl]; exact unhide hcx
  have j1 : rd (wr (W.alloc (Obj.cells e.arr 29)).drew (w.heap.size + 1 + 1) (0 + es.length * 19) (flat [e.arr]).toArray) (w.heap.size + 1 + 1) 0 (es.length * 19) = some (flat (es.map Ent.arr)).toArray := by
    rw [rd_wr_apart _ _ _ _ _ _ hcy (.inl (by omega)), rd_drew, rd_alloc _ _ _ _ _ (by omega)]
    exact unhide f3
  have j2 := rd_wr_same _ _ _ _ _ rfl hcy
  have j3 := rd_join j1 j2
  have e3 : (es.map Ent.arr ++ [e.arr]).length * 19 = es.length * 19 + (flat [e.arr]).toArray.size := by rw [hfl]; simp; omega
  rw [e3, flat_append]
  simp only [Nat.zero_add] at j3 ⊢
  rw [j3]
  simp

set_option maxHeartbeats 400000 in
theorem new_any (n : Int) (w : World) :
    Calls Try.prog 11 #[.int .i64 n] w fun e w' => e = .returned (.agg #[.slice none 0 0, .int .i64 n]) ∧ Below w.heap.size w w' := by
  go_enter Try.func11, Try.ntmps11
  go_wp2
  exact bodyPost_ret (v := .agg #[.slice none 0 0, .int .i64 n]) (by simp [results, Try.results11, go_sem]) rfl ⟨rfl, (Below.refl _ _).alloc (Nat.le_refl _) _⟩

theorem tmod_neg_iff (a n : Int) (hn : 1 ≤ n) : (if a.tmod n < 0 then a.tmod n + n else a.tmod n) = a % n := by
  have h1 := Int.tmod_eq_emod (a := a) (b := n)
  have h2 := Int.emod_nonneg a (b := n) (by omega)
  have h3 := Int.emod_lt_of_pos a (b := n) (by omega)
  have h4 : (n.natAbs : Int) = n := by omega
  split at h1 <;> split <;> omega

set_option maxHeartbeats 400000 in
theorem within_any (a n : Int) (w : World) (ha : -9223372036854775808 ≤ a ∧ a ≤ 9223372036854775807) (hn : 1 ≤ n) (hn2 : n ≤ 4611686018427387904) :
    Calls Try.prog 12 #[.int .i64 a, .int .i64 n] w fun e w' => e = .returned (.int .i64 (a % n)) ∧ w = w' := by
  have hk := tmod_neg_iff a n hn
  have h2 := Int.emod_nonneg a (b := n) (by omega)
  have h3 := Int.emod_lt_of_pos a (b := n) (by omega)
  by_cases h : a.tmod n < 0
  · rw [if_pos h] at hk
    have hb : -9223372036854775808 ≤ a.tmod n + n ∧ a.tmod n + n ≤ 9223372036854775807 := by omega
    have hw : IntKind.i64.wrap (a.tmod n + n) = a.tmod n + n := IntWalk.i64_in _ (by omega)
    replace hk := hide hk
    replace hw := hide hw
    clear h2 h3
    go_enter Try.func12, Try.ntmps12
    go_wp2
    go_ret
    refine ⟨?_, rfl⟩
    simp only [Ending.returned.injEq]
    rw [← (unhide hk)]
    simp
  · rw [if_neg h] at hk
    replace hk := hide hk
    clear h2 h3
    go_enter Try.func12, Try.ntmps12
    go_wp2
    go_ret
    exact ⟨by rw [← (unhide hk)]; rfl, rfl⟩

theorem info_buf : (Try.prog.info? 25).map (·.size) = some 2 := by kernel_rfl
set_option maxHeartbeats 400000 in
theorem add_any (A : Option Addr) (c : Nat) (next : Int) (w : World) (es : List Ent) (e : Ent) (hc : es.length ≤ c) (hn : es.length ≤ 1000000) (hs : Sl w 0 w.heap.size 19 A (es.map Ent.arr)) (h0 : 0 ≤ next) (h1 : next < 9223372036854775807) :
    Calls Try.prog 13 #[.agg #[.slice A es.length c, .int .i64 next], .agg e.arr] w fun e' w' =>
      (∃ A' c', e' = .returned (.agg #[.slice A' (es.length + 1) c', .int .i64 (next + 1)]) ∧ es.length + 1 ≤ c' ∧ Sl w' w.heap.size w'.heap.size 19 A' ((es ++ [{ e with s := next }]).map Ent.arr)) ∧ Below w.heap.size w w' := by
  go_enter Try.func13, Try.ntmps13
  go_wp2_with fail
  obtain ⟨W, hW⟩ : ∃ W, W = ((w.alloc (Obj.cells #[Value.slice A es.length c, Value.int IntKind.i64 next] 25)).alloc (Obj.cells ({ k := e.k, l := e.l, s := next, d := e.d } : Ent).arr 29)).alloc (Obj.cells #[Value.slice none 0 0, Value.int IntKind.i64 0] 25) := ⟨_, rfl⟩
  have fz : W.heap.size = w.heap.size + 3 := by rw [hW]; simp
  have fb : Below w.heap.size w W := by rw [hW]; exact (((Below.refl _ w).alloc (Nat.le_refl _) _).alloc (by simp) _).alloc (by simp; omega) _
  have f1 : W.cell? ⟨w.heap.size, 0, none⟩ = some (.slice A es.length c) := by rw [hW]; go_simp
  have f2 : W.cell? ⟨w.heap.size, 1, none⟩ = some (.int .i64 next) := by rw [hW]; go_simp
  have f3 : rd W (w.heap.size + 1) 0 19 = some ({ k := e.k, l := e.l, s := next, d := e.d } : Ent).arr := by rw [hW, rd_alloc _ _ _ _ _ (by simp), rd_new_whole _ _ _ _ _ _ (by simp) (by simp [Ent.arr_size])]
  have f4 : W.cell? ⟨w.heap.size + 1 + 1, 0, none⟩ = some (.slice none 0 0) := by rw [hW]; go_simp
  have f5 : W.cell? ⟨w.heap.size + 1 + 1, 1, none⟩ = some (.int .i64 0) := by rw [hW]; go_simp
  have f6 : ∀ o, W.frozen? ⟨w.heap.size + 1 + 1, o, none⟩ = false := by intro o; rw [hW]; exact frozen_new _ _ _ _ _ (by simp)
  rw [← hW]
  clear hW
  have hlW : w.heap.size + 2 < W.heap.size := by omega
  have hlD : w.heap.size + 2 ≤ W.drew.heap.size := by show w.heap.size + 2 ≤ W.heap.size; omega
  replace fz := hide fz
  replace f4 := hide f4
  replace f5 := hide f5
  replace f6 := hide f6
  have hsW : Sl W.drew 0 W.drew.heap.size 19 A (es.map Ent.arr) := (hs.below fb).more fb.size
  go_region_held3 (fun w' => Below (w.heap.size + 2) W w' ∧ (∀ b o, b < w.heap.size + 2 → w'.cell? ⟨b, o, none⟩ = W.cell? ⟨b, o, none⟩) ∧ (∀ b o n, b < w.heap.size + 2 → rd w' b o n = rd W b o n))
    (first | with_reducible exact keepS (Below.refl _ _).drew | with_reducible exact keepS ((Below.refl _ _).drew.trans (hb.mono hlD)) | with_reducible exact keepS ((((Below.refl _ _).drew.trans (hb.mono hlD)).setCell (by simp) _).setCell (by simp) _))
    (first | (go_at_call 31; refine (with_any _ _ _ es { e with s := next } hc hn hsW).mono ?_; rintro e' w1 ⟨⟨A', c', rfl, hc', hs'⟩, hb⟩; have z4 := (hb.cell (p := ⟨w.heap.size + 1 + 1, 0, none⟩) hlW).trans (unhide f4); have z5 := (hb.cell (p := ⟨w.heap.size + 1 + 1, 1, none⟩) hlW).trans (unhide f5); have z6 := fun o => (hb.frozen (p := ⟨w.heap.size + 1 + 1, o, none⟩) hlW).trans ((unhide f6) o)))
  go_wp2
  have hw1 : IntKind.i64.wrap (next + 1) = next + 1 := IntWalk.i64_in _ (by omega)
  refine bodyPost_ret (results_c Try.results13 Try.underlying25 rfl info_buf (cs := #[.slice A' (es.length + 1) c', .int .i64 (IntKind.i64.wrap (next + 1))]) rfl (rd_two (by go_simp) (by go_simp))) rfl ?_
  rw [hw1]
  refine ⟨⟨_, _, rfl, hc', ?_⟩, ((fb.drew.trans (hb.mono (by show _ ≤ W.heap.size; omega))).setCell (by simp; omega) _).setCell (by simp; omega) _⟩
  have hzz : w1.heap.size = ((w1.setCell { block := w.heap.size + 1 + 1, off := 0 } (Value.slice A' (es.length + 1) c')).setCell { block := w.heap.size + 1 + 1, off := 1 } (Value.int IntKind.i64 (next + 1))).heap.size := by simp [World.setCell]
  rw [← hzz]
  exact ((hs'.setCell (.inl (by show _ < W.heap.size; simp; omega)) _).setCell (.inl (by show _ < W.heap.size; simp; omega)) _).less (by show _ ≤ W.heap.size; omega)

theorem part_int (A : Option Addr) (c : Nat) (w : World) (es : List Ent) (I J : Int) (i j : Nat) (hI : I = (i : Int)) (hJ : J = (j : Int)) (hij : i ≤ j) (hj : j ≤ es.length) (hc : es.length ≤ c) (hn : es.length ≤ 1000000) (hs : Sl w 0 w.heap.size 19 A (es.map Ent.arr)) :
    Calls Try.prog 32 #[.agg #[.slice A es.length c], .int .i64 I, .int .i64 J] w fun e w' =>
      (∃ A', e = .returned (.slice A' (j - i) (j - i)) ∧ Sl w' w.heap.size w'.heap.size 19 A' (((es.drop i).take (j - i)).map Ent.arr)) ∧ Below w.heap.size w w' := by
  subst hI hJ
  exact part_any A c w es i j hij hj hc hn hs
set_option maxHeartbeats 1000000 in
theorem take_any (A : Option Addr) (c : Nat) (next n : Int) (w : World) (es : List Ent) (hc : es.length ≤ c) (hn : es.length ≤ 1000000) (hs : Sl w 0 w.heap.size 19 A (es.map Ent.arr)) (m : Nat) (hm : (m : Int) = min (max n 0) es.length) :
    Calls Try.prog 15 #[.agg #[.slice A es.length c, .int .i64 next], .int .i64 n] w fun e' w' =>
      (∃ A' A2, e' = .returned (.tuple #[.agg #[.slice A' (es.length - m) (es.length - m), .int .i64 next], .slice A2 m m]) ∧
         Sl w' w.heap.size w'.heap.size 19 A' ((es.drop m).map Ent.arr) ∧ Sl w' w.heap.size w'.heap.size 19 A2 ((es.take m).map Ent.arr)) ∧ Below w.heap.size w w' := by
  have hml : m ≤ es.length := by omega
  have hD : ((es.drop m).take (es.length - m)).map Ent.arr = (es.drop m).map Ent.arr := by rw [List.take_of_length_le (by simp)]
  have hT : ((es.drop 0).take (m - 0)).map Ent.arr = (es.take m).map Ent.arr := by simp
  replace hD := hide hD
  replace hT := hide hT
  have hcases : (n < 0 ∧ Hid ((0 : Int) = (m : Int))) ∨ ((es.length : Int) < n ∧ Hid ((es.length : Int) = (m : Int))) ∨ ((0 ≤ n ∧ n ≤ es.length) ∧ Hid (n = (m : Int))) := by
    unfold Hid
    omega
  replace hm := hide hm
  rcases hcases with ⟨hb0, hI⟩ | ⟨hb0, hI⟩ | ⟨hb0, hI⟩
  all_goals
    go_enter Try.func15, Try.ntmps15
    go_wp2_with fail
    obtain ⟨W, hW⟩ : ∃ W, W = ((w.alloc (Obj.cells #[Value.slice A es.length c, Value.int IntKind.i64 next] 25)).alloc (Obj.cells #[Value.slice none 0 0, Value.int IntKind.i64 0] 25)).alloc (Obj.cells #[Value.slice A es.length c] 70) := ⟨_, rfl⟩
    have fz : W.heap.size = w.heap.size + 3 := by rw [hW]; simp
    have fb : Below w.heap.size w W := by rw [hW]; exact (((Below.refl _ w).alloc (Nat.le_refl _) _).alloc (by simp) _).alloc (by simp; omega) _
    have f1 : W.cell? ⟨w.heap.size, 0, none⟩ = some (.slice A es.length c) := by rw [hW]; go_simp
    have f2 : W.cell? ⟨w.heap.size, 1, none⟩ = some (.int .i64 next) := by rw [hW]; go_simp
    have f3 : W.cell? ⟨w.heap.size + 1 + 1, 0, none⟩ = some (.slice A es.length c) := by rw [hW]; go_simp
    have f4 : W.cell? ⟨w.heap.size + 1, 0, none⟩ = some (.slice none 0 0) := by rw [hW]; go_simp
    have f5 : W.cell? ⟨w.heap.size + 1, 1, none⟩ = some (.int .i64 0) := by rw [hW]; go_simp
    have f6 : ∀ o, W.frozen? ⟨w.heap.size + 1, o, none⟩ = false := by intro o; rw [hW]; exact (Below.frozen ((Below.refl (w.heap.size + 2) _).alloc (by simp) _) (by simp)).trans (frozen_new _ _ _ _ _ (by simp))
    rw [← hW]
    clear hW
    have hlD : w.heap.size + 2 < W.drew.heap.size := by show w.heap.size + 2 < W.heap.size; omega
    have hlD1 : w.heap.size + 1 < W.drew.heap.size := by omega
    have hlD0 : w.heap.size + 1 ≤ W.drew.heap.size := by omega
    replace fz := hide fz
    replace f4 := hide f4
    replace f5 := hide f5
    replace f6 := hide f6
    have hsW : Sl W.drew 0 W.drew.heap.size 19 A (es.map Ent.arr) := (hs.below fb).more fb.size
    have kkW := keepC (N := w.heap.size + 1) (W := W) (w' := W.drew) (p := ⟨w.heap.size + 1 + 1, 0, none⟩) (Below.refl _ _).drew f3
    replace f3 := hide f3
    replace kkW := hide kkW
    go_region_held3 (fun w' => Below (w.heap.size + 1) W w' ∧ (∀ b o, b < w.heap.size + 1 → w'.cell? ⟨b, o, none⟩ = W.cell? ⟨b, o, none⟩) ∧ (∀ b o n, b < w.heap.size + 1 → rd w' b o n = rd W b o n) ∧ w'.cell? ⟨w.heap.size + 1 + 1, 0, none⟩ = some (.slice A es.length c))
      (first | with_reducible exact unhide kkW | with_reducible exact unhide kk1 | with_reducible exact unhide kk2 | with_reducible exact keepC (((unhide kk2).1.setCell (by simp) _).setCell (by simp) _) (by rw [World.cell?_setCell_other _ _ _ _ (by simp), World.cell?_setCell_other _ _ _ _ (by simp)]; exact (unhide kk2).2.2.2))
      (first | (go_at_call 32; (with_reducible refine (part_int A c _ es _ _ m es.length (unhide hI) rfl hml (Nat.le_refl _) hc hn hsW).mono ?_); rintro e' w1 ⟨⟨A', rfl, hsA⟩, hb1⟩; have z41 := (hb1.cell (p := ⟨w.heap.size + 1, 0, none⟩) hlD1).trans (unhide f4); have z51 := (hb1.cell (p := ⟨w.heap.size + 1, 1, none⟩) hlD1).trans (unhide f5); have z61 := fun o => (hb1.frozen (p := ⟨w.heap.size + 1, o, none⟩) hlD1).trans ((unhide f6) o); have hs1 := (hsW.below hb1).more hb1.size; have hl11 : w.heap.size + 1 < w1.heap.size := Nat.lt_of_lt_of_le hlD1 hb1.size; have hl12 : w.heap.size + 2 < w1.heap.size := Nat.lt_of_lt_of_le hlD hb1.size; have kk1 := keepC ((unhide kkW).1.trans (hb1.mono hlD0)) ((hb1.cell (p := ⟨w.heap.size + 1 + 1, 0, none⟩) hlD).trans (unhide kkW).2.2.2); replace kk1 := hide kk1; replace z41 := hide z41; replace z51 := hide z51; replace z61 := hide z61; replace hs1 := hide hs1) | (go_at_call 32; (with_reducible refine (part_int A c _ es _ _ 0 m Int.natCast_zero.symm (unhide hI) (Nat.zero_le _) hml hc hn (unhide hs1)).mono ?_); rintro e' w2 ⟨⟨A2, rfl, hsB⟩, hb2⟩; have z42 := (hb2.cell (p := ⟨w.heap.size + 1, 0, none⟩) hl11).trans (unhide z41); have z52 := (hb2.cell (p := ⟨w.heap.size + 1, 1, none⟩) hl11).trans (unhide z51); have z62 := fun o => (hb2.frozen (p := ⟨w.heap.size + 1, o, none⟩) hl11).trans ((unhide z61) o); have kk2 := keepC ((unhide kk1).1.trans (hb2.mono (Nat.le_of_lt hl11))) ((hb2.cell (p := ⟨w.heap.size + 1 + 1, 0, none⟩) hl12).trans (unhide kk1).2.2.2); replace kk2 := hide kk2))
    go_wp2
    have y1 := (hb2.cell (p := ⟨w.heap.size + 1, 0, none⟩) hl11).trans (unhide z41)
    have y2 := (hb2.cell (p := ⟨w.heap.size + 1, 1, none⟩) hl11).trans (unhide z51)
    refine bodyPost_ret (results_ct Try.results15 Try.underlying25 rfl info_buf (cs := #[.slice A' (es.length - m) (es.length - m), .int .i64 next]) rfl (rd_two (by go_simp) (by go_simp))) rfl ?_
    have hzz : w2.heap.size = ((w2.setCell { block := w.heap.size + 1, off := 0 } (Value.slice A' (es.length - m) (es.length - m))).setCell { block := w.heap.size + 1, off := 1 } (Value.int IntKind.i64 next)).heap.size := by simp [World.setCell]
    have hlw1 : w.heap.size + 2 ≤ w1.heap.size := Nat.le_of_lt hl12
    have q1 : Sl w2 w.heap.size w2.heap.size 19 A' ((es.drop m).map Ent.arr) := by
      rw [← (unhide hD)]
      exact ((hsA.below hb2).more hb2.size).less (by omega)
    have q1' : Sl w2 (w.heap.size + 2) w2.heap.size 19 A' ((es.drop m).map Ent.arr) := by
      rw [← (unhide hD)]
      exact ((hsA.below hb2).more hb2.size).less (by omega)
    have q2' : Sl w2 (w.heap.size + 2) w2.heap.size 19 A2 ((es.take m).map Ent.arr) := by
      rw [← (unhide hT)]
      exact hsB.less hlw1
    refine ⟨⟨A', A2, rfl, ?_, ?_⟩, ?_⟩
    · rw [← hzz]
      exact ((q1'.setCell (.inl (by simp)) _).setCell (.inl (by simp)) _).less (by omega)
    · rw [← hzz]
      exact ((q2'.setCell (.inl (by simp)) _).setCell (.inl (by simp)) _).less (by omega)
    · exact (((fb.drew.trans (hb1.mono (by omega))).trans (hb2.mono (by omega))).setCell (by simp) _).setCell (by simp) _
end Go.Proofs.Ytpblhedmfeddbaa.Base
