/-
  BufferFinds: what is found is what was added last; the walk.
-/
import Derived.Test.YtpblhedmfeddbaaBuf
import Derived.Test.YtpblhedmfeddbaaLaw
namespace Go.Proofs.Ytpblhedmfeddbaa
open Go.RowKit
attribute [local go_sem] Ent.arr0 Ent.arr1 Ent.arr2 Ent.set1 Ent.set2 Ent.arr_size Ent.okW Ent.lit run_ldV_ent run_stV_ent ldR_some stR_true rd_new_whole rd_alloc canW_new canW_alloc wr_new wr_alloc rd_drew rd_drewN canW_drew canW_drewN run_bsS_ent run_eqI_ent rd_setCell rd_setCell_same canW_setCell' Option.map_some cell_wr_other rd_wr_same rd_wr_other
attribute [local go_sem ↓] ldV_ent stV_ent bsS_ent eqI_ent

theorem add_none (c : Nat) (next : Int) (w : World) (e : Ent) (h0 : 0 ≤ next) (h1 : next < 9223372036854775807) :
    Calls Try.prog 13 #[.agg #[.slice none 0 c, .int .i64 next], .agg e.arr] w fun e' w' =>
      (∃ A' c', e' = .returned (.agg #[.slice A' 1 c', .int .i64 (next + 1)]) ∧ 1 ≤ c' ∧ Sl w' w.heap.size w'.heap.size 19 A' [({ e with s := next } : Ent).arr]) ∧ Below w.heap.size w w' := by
  have := add_any none c next w [] e (by simp) (by simp) Sl.nil h0 h1
  simpa using this

set_option maxHeartbeats 400000 in
theorem known_any (w : World) : Calls Try.prog 10 #[] w fun e w' => e = .returned (.bool true) ∧ Below w.heap.size w w' := by
  go_enter Try.func10, Try.ntmps10
  go_wp2_with fail
  refine (new_any _ _).mono ?_
  rintro e w1 ⟨rfl, hb1⟩
  go_wp2_with fail
  refine (add_none 0 5 w1 (⟨1, 1, 0, fun _ => 0⟩ : Ent) (by omega) (by omega)).mono ?_
  rintro e w2 ⟨⟨A', c', rfl, hc', hs⟩, hb2⟩
  obtain ⟨b, o, rfl, hL, hlt, hr⟩ := hs.at_ (k := 0) (by simp)
  have hc := rd_cell hr 2 (by omega)
  simp only [List.getElem_cons_zero, Ent.arr2, Nat.zero_mul, Nat.add_zero] at hc hr
  go_wp2
  go_ret
  exact ⟨rfl, ((hb1.trans (hb2.mono hb1.size)).alloc (by have := hb1.size; have := hb2.size; omega) _)⟩

/-! ### what the law says, in plain lists -/
def finE (l : List Ent) (k : Nat) : List Ent := (l.take k).mapIdx fun i e => { e with l := e.l % 5, s := 1 + (i : Int) }
theorem finE_len (l : List Ent) {k : Nat} (hk : k ≤ l.length) : (finE l k).length = k := by simp [finE]; omega
theorem finE_zero (l : List Ent) : finE l 0 = [] := by simp [finE]
theorem finE_succ (l : List Ent) {k : Nat} (hk : k < l.length) : finE l (k + 1) = finE l k ++ [{ l[k] with l := l[k].l % 5, s := 1 + (k : Int) }] := by
  unfold finE
  rw [List.take_succ_eq_append_getElem hk, List.mapIdx_append]
  simp [Nat.min_eq_left (Nat.le_of_lt hk)]
theorem findE_snoc (es : List Ent) (e : Ent) (lba : Int) : findE (es ++ [e]) lba = if e.l = lba then (e, true) else findE es lba := by
  unfold findE
  rw [List.reverse_append, List.reverse_singleton, List.singleton_append, List.find?_cons]
  by_cases h : e.l = lba <;> simp [h]
theorem finE_out (l : List Ent) (lba : Int) (h : 5 ≤ lba) (k : Nat) : findE (finE l k) lba = (Ent.zero, false) := by
  refine findE_none _ _ (fun j hj => ?_)
  simp only [finE, List.getElem_mapIdx]
  have := Int.emod_lt_of_pos ((l.take k)[j]'(by simpa [finE] using hj)).l (b := 5) (by omega)
  omega

theorem add_n (A : Option Addr) (n c : Nat) (next : Int) (w : World) (es : List Ent) (e : Ent) (he : es.length = n) (hc : n ≤ c) (hn : n ≤ 1000000) (hs : Sl w 0 w.heap.size 19 A (es.map Ent.arr)) (h0 : 0 ≤ next) (h1 : next < 9223372036854775807) :
    Calls Try.prog 13 #[.agg #[.slice A n c, .int .i64 next], .agg e.arr] w fun e' w' =>
      (∃ A' c', e' = .returned (.agg #[.slice A' (n + 1) c', .int .i64 (next + 1)]) ∧ n + 1 ≤ c' ∧ Sl w' w.heap.size w'.heap.size 19 A' ((es ++ [{ e with s := next }]).map Ent.arr)) ∧ Below w.heap.size w w' := by
  subst he
  exact add_any A c next w es e hc hn hs h0 h1
theorem find_n (A : Option Addr) (n c : Nat) (next lba : Int) (w : World) (es : List Ent) (he : es.length = n) (hn : n ≤ 1000000) (hs : Sl w 0 w.heap.size 19 A (es.map Ent.arr)) :
    Calls Try.prog 14 #[.agg #[.slice A n c, .int .i64 next], .int .i64 lba] w fun e w' =>
      e = .returned (.tuple #[.agg (findE es lba).1.arr, .bool (findE es lba).2]) ∧ Below w.heap.size w w' := by
  subst he
  exact find_any A c next lba w es hn hs

/-- the loop: k updates are added -/
def FinI (l : List Ent) (q : Int) (w : World) (B : Nat) (is i : Value) (wr : World) : Prop :=
  ∃ (k : Nat) (A' : Option Addr) (c' : Nat), k ≤ l.length ∧ i = .int .i64 k ∧ is = .bool (findE (finE l k) q).2 ∧ k ≤ c' ∧ Below w.heap.size w wr ∧ B + 2 ≤ wr.heap.size ∧
    wr.cell? ⟨B, 0, none⟩ = some (.slice A' k c') ∧ wr.cell? ⟨B, 1, none⟩ = some (.int .i64 ((k : Int) + 1)) ∧ (∀ o, wr.frozen? ⟨B, o, none⟩ = false) ∧
    rd wr (B + 1) 0 19 = some (findE (finE l k) q).1.arr ∧ canW wr (B + 1) 0 19 = true ∧ Sl wr (B + 2) wr.heap.size 19 A' ((finE l k).map Ent.arr)

set_option maxHeartbeats 1000000 in
theorem finds_walk (A : Option Addr) (c : Nat) (l : List Ent) (lba n : Int) (w : World) (hc : l.length ≤ c) (hm : c ≤ maxLen) (hs : Sl w 0 w.heap.size 19 A (l.map Ent.arr)) (hwf : ∀ e ∈ l, e.Wf) (hlba : I64 lba) (hnn : I64 n) :
    Calls Try.prog 3 #[.slice A l.length c, .int .i64 lba, .int .i64 n] w fun e w' => e = .returned (.bool true) ∧ Below w.heap.size w w' := by
  unfold maxLen at hm
  unfold I64 at hlba hnn
  by_cases hlen : 40 < l.length
  · go_enter Try.func3, Try.ntmps3
    go_wp2_with fail
    refine (known_any _).mono ?_
    rintro e w1 ⟨rfl, hb1⟩
    go_wp2
    go_ret
    exact ⟨rfl, hb1⟩
  · have hlen' : l.length ≤ 40 := by omega
    go_enter Try.func3, Try.ntmps3
    go_wp2_with fail
    refine (known_any _).mono ?_
    rintro e w1 ⟨rfl, hb1⟩
    go_wp2_with fail
    refine (new_any _ _).mono ?_
    rintro e w2 ⟨rfl, hb2⟩
    go_wp2_with fail
    refine (within_any _ _ _ (by omega) (by omega) (by omega)).mono ?_
    rintro e w3 ⟨rfl, rfl⟩
    have hq1 := Int.emod_nonneg lba (b := 5) (by omega)
    have hq2 := Int.emod_lt_of_pos lba (b := 5) (by omega)
    generalize lba % 5 = q at hq1 hq2 ⊢
    have hb := hb1.trans (hb2.mono hb1.size)
    go_wp2_with fail
    have hwz : w.heap.size ≤ w2.heap.size := hb.size
    go_loopw [9, 10] (fun is i wr => FinI l q w w2.heap.size is i wr) (fun _ i _ => l.length - (intOf i).toNat)
    case atStart =>
      refine ⟨0, none, 0, Nat.zero_le _, rfl, ?_, Nat.le_refl _, (hb.alloc hwz _).alloc (by simp; omega) _, by simp, by go_simp, by go_simp, ?_, ?_, ?_, ?_⟩
      · rw [finE_zero]; rfl
      · intro o
        exact (Below.frozen ((Below.refl (w2.heap.size + 1) _).alloc (by simp) _) (by simp)).trans (frozen_new _ _ _ _ _ rfl)
      · rw [finE_zero]; exact rd_new_whole _ _ _ _ _ _ (by simp) (Ent.arr_size _).symm
      · exact canW_new _ _ _ _ _ _ (by simp) (by simp [Ent.arr_size])
      · rw [finE_zero]; exact Sl.nil
    case round =>
      obtain ⟨k, A', c', hk, rfl, rfl, hc', hbr, hz, f0, f1, f2, f3, f4, f5⟩ := hrel
      by_cases hkl : k < l.length
      · obtain ⟨b, o, rfl, _, hlt, hr⟩ := hs.at_ (k := k) (by simpa using hkl)
        have hw := hwf l[k] (List.getElem_mem hkl)
        have hl1 := hw.l
        unfold I64 at hl1
        simp only [List.getElem_map] at hr
        have hr1 : rd wr b (o + k * 19) 19 = some l[k].arr := (rd_below hbr hlt _ _).trans hr
        have hz1 : w2.heap.size < wr.heap.size := by omega
        have hz2 : w2.heap.size + 1 < wr.heap.size := by omega
        have fE := finE_succ l hkl
        have fS := findE_snoc (finE l k) { l[k] with l := l[k].l % 5, s := 1 + (k : Int) } q
        replace f3 := hide f3
        replace f4 := hide f4
        replace fE := hide fE
        replace fS := hide fS
        replace f2 := hide f2
        go_wp2_with fail
        refine (within_any _ _ _ (by omega) (by omega) (by omega)).mono ?_
        rintro e w3 ⟨rfl, rfl⟩
        go_wp2_with fail
        refine (add_n A' k c' _ _ (finE l k) { k := l[k].k, l := l[k].l % 5, s := l[k].s, d := l[k].d } (finE_len l hk) hc' (by omega) ((f5.alloc (Nat.le_refl _) _).more (by simp) |>.less (Nat.zero_le _)) (by omega) (by omega)).mono ?_
        rintro e w5 ⟨⟨A2, c2', rfl, hc2, hs2⟩, hb5⟩
        have c0 : w5.cell? ⟨w2.heap.size, 0, none⟩ = some (.slice A' k c') := (hb5.cell (p := ⟨w2.heap.size, 0, none⟩) (by simp; omega)).trans ((World.cell?_alloc_lt wr _ _ hz1).trans f0)
        have c1 : w5.cell? ⟨w2.heap.size, 1, none⟩ = some (.int .i64 ((k : Int) + 1)) := (hb5.cell (p := ⟨w2.heap.size, 1, none⟩) (by simp; omega)).trans ((World.cell?_alloc_lt wr _ _ hz1).trans f1)
        have c2 : ∀ o, w5.frozen? ⟨w2.heap.size, o, none⟩ = false := fun o => (hb5.frozen (p := ⟨w2.heap.size, o, none⟩) (by simp; omega)).trans ((Below.frozen ((Below.refl wr.heap.size wr).alloc (Nat.le_refl _) _) hz1).trans ((unhide f2) o))
        have d0 : rd w5 (w2.heap.size + 1) 0 19 = some (findE (finE l k) q).1.arr := (rd_below hb5 (by simp; omega) _ _).trans ((rd_alloc _ _ _ _ _ hz2).trans (unhide f3))
        have d1 : canW w5 (w2.heap.size + 1) 0 19 = true := (canW_below hb5 (by simp; omega) _ _).trans ((canW_alloc _ _ _ _ _ hz2).trans (unhide f4))
        have e0 : rd w5 wr.heap.size 0 19 = some ({ k := l[k].k, l := l[k].l % 5, s := l[k].s, d := l[k].d } : Ent).arr := (rd_below hb5 (by simp) _ _).trans (rd_new_whole _ _ _ _ _ _ rfl (Ent.arr_size _).symm)
        have e1 := rd_cell e0 1 (by omega)
        have e2 := rd_cell e0 2 (by omega)
        simp only [Ent.arr1, Ent.arr2, Nat.zero_add] at e1 e2
        have e3 : ∀ o, w5.frozen? ⟨wr.heap.size, o, none⟩ = false := fun o => (hb5.frozen (p := ⟨wr.heap.size, o, none⟩) (by simp)).trans (frozen_new _ _ _ _ _ rfl)
        have hn1 : wr.heap.size ≠ w2.heap.size := by omega
        have hn2 : wr.heap.size ≠ w2.heap.size + 1 := by omega
        replace d0 := hide d0
        by_cases hqe : l[k].l % 5 = q
        · go_wp2_with fail
          have hee : ({ l[k] with l := l[k].l % 5, s := 1 + (k : Int) } : Ent) = { k := l[k].k, l := q, s := 1 + (k : Int), d := l[k].d } := by rw [hqe]
          obtain ⟨W, hW⟩ : ∃ W, W = ((w5.setCell { block := w2.heap.size, off := 0 } (Value.slice A2 (k + 1) c2')).setCell { block := w2.heap.size, off := 1 } (Value.int IntKind.i64 (↑k + 1 + 1))).setCell { block := wr.heap.size, off := 2 } (Value.int IntKind.i64 (1 + ↑k)) := ⟨_, rfl⟩
          rw [← hW]
          have hWz : W.heap.size = w5.heap.size := by rw [hW]; simp [World.setCell]
          have hWb : Below w.heap.size w W := by rw [hW]; exact ((((hbr.alloc (by omega) _).trans (hb5.mono (by simp; omega))).setCell (by simp; omega) _).setCell (by simp; omega) _).setCell (by simp; omega) _
          have g0 : W.cell? ⟨w2.heap.size, 0, none⟩ = some (.slice A2 (k + 1) c2') := by rw [hW]; go_simp
          have g1 : W.cell? ⟨w2.heap.size, 1, none⟩ = some (.int .i64 ((k : Int) + 1 + 1)) := by rw [hW]; go_simp
          have g2 : ∀ o, W.frozen? ⟨w2.heap.size, o, none⟩ = false := by intro o; rw [hW, World.frozen?_setCell, World.frozen?_setCell, World.frozen?_setCell]; exact c2 o
          have g3 : canW W (w2.heap.size + 1) 0 19 = true := by rw [hW, canW_setCell', canW_setCell', canW_setCell']; exact d1
          have g4 : Sl W (w2.heap.size + 2) W.heap.size 19 A2 ((finE l (k + 1)).map Ent.arr) := by
            rw [(unhide fE), Int.add_comm 1 (k : Int), hWz, hW]
            have := (hs2.less (L' := wr.heap.size + 1) (by simp))
            exact (((this.setCell (.inl (by simp; omega)) _).setCell (.inl (by simp; omega)) _).setCell (.inl (by simp)) _).less (by omega)
          clear hW
          have hk5 := hb5.size
          simp only [World.size_alloc] at hk5
          refine ⟨⟨k + 1, A2, c2', by omega, by simp, ?_, hc2, below_wr hWb (by omega) _ _, by rw [size_wr]; omega, ?_, ?_, ?_, ?_, ?_, ?_⟩, by simp [intOf]; omega⟩
          · rw [(unhide fE), (unhide fS), if_pos hqe]
          · rw [cell_wr_other _ _ _ _ _ (by simp)]; exact g0
          · rw [cell_wr_other _ _ _ _ _ (by simp)]
            simpa using g1
          · intro o
            rw [frozen_wr_other _ _ _ _ _ (by simp)]; exact g2 o
          · rw [(unhide fE), (unhide fS), if_pos hqe]
            simp only [hee]
            exact rd_wr_same _ _ _ _ _ (Ent.arr_size _).symm g3
          · rw [canW_wr _ _ _ _ _ _ _ (by rw [Ent.arr_size]; exact g3)]; exact g3
          · rw [size_wr]; exact g4.wr_ (.inl (by omega)) _ _
        · go_wp2_with fail
          refine ⟨⟨k + 1, A2, c2', by omega, by simp, ?_, hc2, ?_, ?_, by go_simp, by go_simp, ?_, ?_, ?_, ?_⟩, by simp [intOf]; omega⟩
          · rw [(unhide fE), (unhide fS), if_neg hqe]
          · exact (((hbr.alloc (by omega) _).trans (hb5.mono (by simp; omega))).setCell (by simp; omega) _).setCell (by simp; omega) _
          · have := hb5.size
            simp at this ⊢
            omega
          · intro o
            rw [World.frozen?_setCell, World.frozen?_setCell]
            exact c2 o
          · rw [(unhide fE), (unhide fS), if_neg hqe, rd_setCell _ _ _ _ _ _ (by simp), rd_setCell _ _ _ _ _ _ (by simp)]
            exact unhide d0
          · rw [canW_setCell', canW_setCell']; exact d1
          · rw [(unhide fE), Int.add_comm 1 (k : Int)]
            have hsz : ((w5.setCell { block := w2.heap.size, off := 0 } (Value.slice A2 (k + 1) c2')).setCell { block := w2.heap.size, off := 1 } (Value.int IntKind.i64 (↑k + 1 + 1))).heap.size = w5.heap.size := by simp [World.setCell]
            rw [hsz]
            have := (hs2.less (L' := w2.heap.size + 2) (by simp; omega))
            exact (this.setCell (.inl (by simp)) _).setCell (.inl (by simp)) _
      · obtain rfl : k = l.length := by omega
        have hz1 : w2.heap.size < wr.heap.size := by omega
        have hz2 : w2.heap.size + 1 < wr.heap.size := by omega
        go_wp2_with fail
        refine (find_n A' _ c' _ _ _ (finE l l.length) (finE_len l (Nat.le_refl _)) (by omega) (f5.less (Nat.zero_le _))).mono ?_
        rintro e w5 ⟨rfl, hb5⟩
        go_wp2_with fail
        have hfo : findE (finE l l.length) (5 + n % 99) = (Ent.zero, false) := finE_out l _ (by omega) _
        obtain ⟨W, hW⟩ : ∃ W, W = w5.alloc (Obj.cells (findE (finE l l.length) q).1.arr 29) := ⟨_, rfl⟩
        have hWb : Below wr.heap.size wr W := by rw [hW]; exact hb5.alloc hb5.size _
        have h5z := hb5.size
        have hWz : W.heap.size = w5.heap.size + 1 := by rw [hW]; simp
        have g0 : W.cell? ⟨w2.heap.size, 0, none⟩ = some (.slice A' l.length c') := (hWb.cell (p := ⟨w2.heap.size, 0, none⟩) hz1).trans f0
        have g1 : W.cell? ⟨w2.heap.size, 1, none⟩ = some (.int .i64 ((l.length : Int) + 1)) := (hWb.cell (p := ⟨w2.heap.size, 1, none⟩) hz1).trans f1
        have g2 : rd W (w2.heap.size + 1) 0 19 = some (findE (finE l l.length) q).1.arr := (rd_below hWb hz2 _ _).trans f3
        have g3 : rd W w5.heap.size 0 19 = some (findE (finE l l.length) q).1.arr := by rw [hW]; exact rd_new_whole _ _ _ _ _ _ rfl (Ent.arr_size _).symm
        have g4 : Sl W.drew 0 W.drew.heap.size 19 A' ((finE l l.length).map Ent.arr) := ((f5.below hWb).more hWb.size).less (Nat.zero_le _)
        rw [← hW]
        clear hW
        have hnm1 := Int.emod_nonneg n (b := 99) (by omega)
        have hnm2 := Int.emod_lt_of_pos n (b := 99) (by omega)
        have hsum : IntKind.i64.wrap (5 + n % 99) = 5 + n % 99 := IntWalk.i64_in _ (by omega)
        have hlD : w2.heap.size + 2 ≤ W.drew.heap.size := by show _ ≤ W.heap.size; omega
        have hlW : w5.heap.size < W.heap.size := by omega
        have hlW1 : w2.heap.size < W.heap.size := by omega
        have hlW2 : w2.heap.size + 1 < W.heap.size := by omega
        replace hfo := hide hfo
        replace hWz := hide hWz
        replace g2 := hide g2
        replace g3 := hide g3
        have g5 : Sl (W.alloc (Obj.cells ({ k := 0, l := 0, s := 0, d := fun _ => 0 } : Ent).arr 29)).drew 0 (W.alloc (Obj.cells ({ k := 0, l := 0, s := 0, d := fun _ => 0 } : Ent).arr 29)).drew.heap.size 19 A' ((finE l l.length).map Ent.arr) := by
          have := (g4.alloc (Nat.le_refl _) (Obj.cells ({ k := 0, l := 0, s := 0, d := fun _ => 0 } : Ent).arr 29)).more (B' := (W.alloc (Obj.cells ({ k := 0, l := 0, s := 0, d := fun _ => 0 } : Ent).arr 29)).drew.heap.size) (by simp)
          exact this
        have hlZ : W.heap.size < (W.alloc (Obj.cells ({ k := 0, l := 0, s := 0, d := fun _ => 0 } : Ent).arr 29)).drew.heap.size := by simp
        have hcZ : canW (W.alloc (Obj.cells ({ k := 0, l := 0, s := 0, d := fun _ => 0 } : Ent).arr 29)).drew W.heap.size 0 19 = true := canW_new _ _ _ _ _ _ rfl (by simp [Ent.arr_size])
        have hbZ : Below W.heap.size W (W.alloc (Obj.cells ({ k := 0, l := 0, s := 0, d := fun _ => 0 } : Ent).arr 29)).drew := ((Below.refl _ _).alloc (Nat.le_refl _) _).drew
        replace hcZ := hide hcZ
        go_region_held3 (fun w' => Below W.heap.size W w' ∧ (∀ b o, b < W.heap.size → w'.cell? ⟨b, o, none⟩ = W.cell? ⟨b, o, none⟩) ∧ (∀ b o n, b < W.heap.size → rd w' b o n = rd W b o n))
          (first | with_reducible exact keepS hbb | with_reducible exact keepS (below_wr hbb (Nat.le_refl _) _ _) | with_reducible exact keepS hbZ | with_reducible exact keepS (Below.refl _ _).drew | with_reducible exact keepS (hbb.alloc hbb.size _))
          (first | (go_at_call 12; (with_reducible refine (within_any n 99 _ hnn (by omega) (by omega)).mono ?_); rintro e w' ⟨rfl, rfl⟩) | (go_at_call 14; (with_reducible refine (find_n A' _ c' _ _ _ (finE l l.length) (finE_len l (Nat.le_refl _)) (by omega) g4).mono ?_); rintro e w6 ⟨rfl, hb6⟩; have hbb : Below W.heap.size W w6 := Below.trans (Below.drew (Below.refl W.heap.size W)) hb6) | (go_at_call 14; (with_reducible refine (find_n A' _ c' _ _ _ (finE l l.length) (finE_len l (Nat.le_refl _)) (by omega) g5).mono ?_); rintro e w6 ⟨rfl, hb6⟩; have hbb : Below W.heap.size W w6 := Below.trans hbZ (hb6.mono (Nat.le_of_lt hlZ)); have hcw : canW w6 W.heap.size 0 19 = true := (canW_below hb6 hlZ _ _).trans (unhide hcZ)))
        all_goals
          simp only [(unhide hfo)]
          have r1 : rd w6 (w2.heap.size + 1) 0 19 = some (findE (finE l l.length) q).1.arr := (rd_below hbb hlW2 _ _).trans (unhide g2)
          have r2 : rd w6 w5.heap.size 0 19 = some (findE (finE l l.length) q).1.arr := (rd_below hbb hlW _ _).trans (unhide g3)
          have n1 : w2.heap.size + 1 ≠ W.heap.size := by omega
          have n2 : w5.heap.size ≠ W.heap.size := by omega
          have n3 : w2.heap.size + 1 < w6.heap.size := Nat.lt_of_lt_of_le hlW2 hbb.size
          have n4 : w5.heap.size < w6.heap.size := Nat.lt_of_lt_of_le hlW hbb.size
          have hbf : Below w.heap.size w w6 := (hbr.trans (hWb.mono hbr.size)).trans (hbb.mono (by omega))
          replace hfo := hide hfo
          go_wp2
          go_ret
        · exact ⟨rfl, hbf.alloc (by have := hbf.size; omega) _⟩
        · exact ⟨rfl, below_wr hbf (by have := hWb.size; omega) _ _⟩
        · exact ⟨rfl, below_wr hbf (by have := hWb.size; omega) _ _⟩
end Go.Proofs.Ytpblhedmfeddbaa
