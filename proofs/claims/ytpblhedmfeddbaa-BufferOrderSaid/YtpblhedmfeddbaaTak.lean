/-
  BufferTakes: as many are taken as are asked and there; the walk.
-/
import Derived.Test.YtpblhedmfeddbaaKno
import Derived.Test.YtpblhedmfeddbaaLaw
import Derived.StillTailTactics
namespace Go.Proofs.Ytpblhedmfeddbaa
open Go.RowKit
attribute [local go_sem] Ent.arr0 Ent.arr1 Ent.arr2 Ent.set1 Ent.set2 Ent.arr_size Ent.okW Ent.lit run_ldV_ent run_stV_ent ldR_some stR_true rd_new_whole rd_alloc canW_new canW_alloc wr_new wr_alloc rd_drew rd_drewN canW_drew canW_drewN run_bsS_ent run_bsS_ent0 run_eqI_ent rd_setCell rd_setCell_same canW_setCell' Option.map_some cell_wr_other rd_wr_same rd_wr_other
attribute [local go_sem ↓] ldV_ent stV_ent bsS_ent eqI_ent


def adE (nx : Int) (l : List Ent) (k : Nat) : List Ent := (l.take k).mapIdx fun i e => { e with s := nx + (i : Int) }
theorem adE_len (nx : Int) (l : List Ent) {k : Nat} (hk : k ≤ l.length) : (adE nx l k).length = k := by simp [adE]; omega
theorem adE_zero (nx : Int) (l : List Ent) : adE nx l 0 = [] := by simp [adE]
theorem adE_succ (nx : Int) (l : List Ent) {k : Nat} (hk : k < l.length) : adE nx l (k + 1) = adE nx l k ++ [{ l[k] with s := nx + (k : Int) }] := by
  unfold adE
  rw [List.take_succ_eq_append_getElem hk, List.mapIdx_append]
  simp [Nat.min_eq_left (Nat.le_of_lt hk)]

/-- a variable of type Buffer at block B -/
def BufAt (wr : World) (L B : Nat) (es : List Ent) (next : Int) : Prop :=
  ∃ (A' : Option Addr) (c' : Nat), es.length ≤ c' ∧ wr.cell? ⟨B, 0, none⟩ = some (.slice A' es.length c') ∧ wr.cell? ⟨B, 1, none⟩ = some (.int .i64 next) ∧ (∀ o, wr.frozen? ⟨B, o, none⟩ = false) ∧ Sl wr L wr.heap.size 19 A' (es.map Ent.arr)
/-- the loop: k updates are added -/
def AdI (nx : Int) (l : List Ent) (w : World) (B : Nat) (i : Value) (wr : World) : Prop :=
  ∃ k : Nat, k ≤ l.length ∧ i = .int .i64 k ∧ Below w.heap.size w wr ∧ B + 1 ≤ wr.heap.size ∧ BufAt wr (B + 1) B (adE nx l k) (nx + k)

set_option maxHeartbeats 4000000 in
theorem takes_walk (A : Option Addr) (c : Nat) (l : List Ent) (n : Int) (w : World) (hc : l.length ≤ c) (hm : c ≤ maxLen) (hs : Sl w 0 w.heap.size 19 A (l.map Ent.arr)) (hnn : I64 n) :
    Calls Try.prog 5 #[.slice A l.length c, .int .i64 n] w fun e w' => e = .returned (.bool true) ∧ Below w.heap.size w w' := by
  unfold maxLen at hm
  unfold I64 at hnn
  by_cases hlen : 40 < l.length
  · go_enter Try.func5, Try.ntmps5
    go_wp2_with fail
    refine (known_any _).mono ?_
    rintro e w1 ⟨rfl, hb1⟩
    go_wp2
    go_ret
    exact ⟨rfl, hb1⟩
  · have hlen' : l.length ≤ 40 := by omega
    go_enter Try.func5, Try.ntmps5
    go_wp2_with fail
    refine (known_any _).mono ?_
    rintro e w1 ⟨rfl, hb1⟩
    go_wp2_with fail
    refine (new_any _ _).mono ?_
    rintro e w2 ⟨rfl, hb2⟩
    have hb := hb1.trans (hb2.mono hb1.size)
    have hwz : w.heap.size ≤ w2.heap.size := hb.size
    go_wp2_with fail
    go_loopw [6] (fun i wr => AdI 7 l w w2.heap.size i wr) (fun i _ => l.length - (intOf i).toNat)
    case atStart =>
      refine ⟨0, Nat.zero_le _, rfl, hb.alloc hwz _, by simp, ?_⟩
      rw [adE_zero]
      exact ⟨none, 0, Nat.le_refl _, by go_simp, by go_simp, fun o => frozen_new _ _ _ _ _ rfl, Sl.nil⟩
    case round =>
      obtain ⟨k, hk, rfl, hbr, hz, A', c', hc', f0, f1, f2, f5⟩ := hrel
      rw [adE_len 7 l hk] at hc' f0
      have hz1 : w2.heap.size < wr.heap.size := by omega
      by_cases hkl : k < l.length
      · obtain ⟨b, o, rfl, _, hlt, hr⟩ := hs.at_ (k := k) (by simpa using hkl)
        simp only [List.getElem_map] at hr
        have hr1 : rd wr b (o + k * 19) 19 = some l[k].arr := (rd_below hbr hlt _ _).trans hr
        have fE := adE_succ 7 l hkl
        replace fE := hide fE
        go_wp2_with fail
        go_still_tail 5, (by kernel_rfl)
        change wpList _ _ _ _ _ wr.drew
        have f5d : Sl wr.drew 0 wr.drew.heap.size 19 A' ((adE 7 l k).map Ent.arr) := f5.less (Nat.zero_le _)
        go_wp2_with fail
        refine (add_n A' k c' _ _ (adE 7 l k) l[k] (adE_len 7 l hk) hc' (by omega) f5d (by omega) (by omega)).mono ?_
        rintro e w5 ⟨⟨A2, c2', rfl, hc2, hs2⟩, hb5⟩
        have c0 : w5.cell? ⟨w2.heap.size, 0, none⟩ = some (.slice A' k c') := (hb5.cell (p := ⟨w2.heap.size, 0, none⟩) hz1).trans f0
        have c1 : w5.cell? ⟨w2.heap.size, 1, none⟩ = some (.int .i64 (7 + (k : Int))) := (hb5.cell (p := ⟨w2.heap.size, 1, none⟩) hz1).trans f1
        have c2 : ∀ o, w5.frozen? ⟨w2.heap.size, o, none⟩ = false := fun o => (hb5.frozen (p := ⟨w2.heap.size, o, none⟩) hz1).trans (f2 o)
        go_wp2
        have h5z : wr.heap.size ≤ w5.heap.size := hb5.size
        refine ⟨⟨k + 1, by omega, by simp, ((hbr.drew.trans (hb5.mono hbr.size)).setCell (by simp; omega) _).setCell (by simp; omega) _, by simp [World.setCell]; omega, A2, c2', ?_, ?_, ?_, ?_, ?_⟩, by simp [intOf]; omega⟩
        · rw [adE_len 7 l (by omega)]; exact hc2
        · rw [adE_len 7 l (by omega)]; go_simp
        · go_simp
          omega
        · intro o
          rw [World.frozen?_setCell, World.frozen?_setCell]
          exact c2 o
        · rw [(unhide fE)]
          have hsz : ((w5.setCell { block := w2.heap.size, off := 0 } (Value.slice A2 (k + 1) c2')).setCell { block := w2.heap.size, off := 1 } (Value.int IntKind.i64 (7 + ↑k + 1))).heap.size = w5.heap.size := by simp [World.setCell]
          rw [hsz]
          have := (hs2.less (L' := w2.heap.size + 1) (by show _ ≤ wr.heap.size; omega))
          exact (this.setCell (.inl (by simp)) _).setCell (.inl (by simp)) _
      · obtain rfl : k = l.length := by omega
        go_wp2_with fail
        refine (within_any _ _ _ hnn (by omega) (by omega)).mono ?_
        rintro e w3 ⟨rfl, rfl⟩
        have hq1 := Int.emod_nonneg n (b := 50) (by omega)
        have hq2 := Int.emod_lt_of_pos n (b := 50) (by omega)
        generalize n % 50 = q at hq1 hq2 ⊢
        obtain ⟨q, rfl⟩ := Int.eq_ofNat_of_zero_le hq1
        go_wp2_with fail
        refine (take_n A' _ c' _ _ _ (adE 7 l l.length) (adE_len 7 l (Nat.le_refl _)) hc' (by omega) (f5.less (Nat.zero_le _)) (min q l.length) (by omega)).mono ?_
        rintro e w4 ⟨⟨A1, A2, rfl, hs1, hs2⟩, hb4⟩
        have c0 : w4.cell? ⟨w2.heap.size, 0, none⟩ = some (.slice A' l.length c') := (hb4.cell (p := ⟨w2.heap.size, 0, none⟩) hz1).trans f0
        have c1 : w4.cell? ⟨w2.heap.size, 1, none⟩ = some (.int .i64 (7 + (l.length : Int))) := (hb4.cell (p := ⟨w2.heap.size, 1, none⟩) hz1).trans f1
        have h4z : w2.heap.size < w4.heap.size := Nat.lt_of_lt_of_le hz1 hb4.size
        have h4s : wr.heap.size ≤ w4.heap.size := hb4.size
        have s4 : Sl w4 0 w4.heap.size 19 A' ((adE 7 l l.length).map Ent.arr) := ((f5.below hb4).more hb4.size).less (Nat.zero_le _)
        go_wp2_with fail
        refine (take_n A' _ c' _ _ _ (adE 7 l l.length) (adE_len 7 l (Nat.le_refl _)) hc' (by omega) ((s4.alloc (Nat.le_refl _) _).more (by simp)) 0 (by omega)).mono ?_
        rintro e w5 ⟨⟨B1, B2, rfl, ht1, ht2⟩, hb5⟩
        have d0 : w5.cell? ⟨w2.heap.size, 0, none⟩ = some (.slice A' l.length c') := (hb5.cell (p := ⟨w2.heap.size, 0, none⟩) (by simp; omega)).trans ((World.cell?_alloc_lt w4 _ _ h4z).trans c0)
        have d1 : w5.cell? ⟨w2.heap.size, 1, none⟩ = some (.int .i64 (7 + (l.length : Int))) := (hb5.cell (p := ⟨w2.heap.size, 1, none⟩) (by simp; omega)).trans ((World.cell?_alloc_lt w4 _ _ h4z).trans c1)
        have d2 : w5.cell? ⟨w4.heap.size, 0, none⟩ = some (.slice A1 (l.length - min q l.length) (l.length - min q l.length)) := (hb5.cell (p := ⟨w4.heap.size, 0, none⟩) (by simp)).trans (by go_simp)
        have d3 : w5.cell? ⟨w4.heap.size, 1, none⟩ = some (.int .i64 (7 + (l.length : Int))) := (hb5.cell (p := ⟨w4.heap.size, 1, none⟩) (by simp)).trans (by go_simp)
        have h5z : w4.heap.size < w5.heap.size := Nat.lt_of_lt_of_le (by simp) hb5.size
        have h5y : w2.heap.size < w5.heap.size := by omega
        have s5 : Sl w5 0 w5.heap.size 19 A' ((adE 7 l l.length).map Ent.arr) := ((s4.alloc (Nat.le_refl _) _).below (hb5.mono (by simp))).more (by omega)
        have t1 : Sl w5 0 w5.heap.size 19 A1 (((adE 7 l l.length).drop (min q l.length)).map Ent.arr) := (((hs1.alloc (Nat.le_refl _) _).below (hb5.mono (by simp))).more (by omega)).less (Nat.zero_le _)
        have t2 : Sl w5 0 w5.heap.size 19 A2 (((adE 7 l l.length).take (min q l.length)).map Ent.arr) := (((hs2.alloc (Nat.le_refl _) _).below (hb5.mono (by simp))).more (by omega)).less (Nat.zero_le _)
        have hM : min q l.length ≤ l.length ∧ ((q ≤ l.length ∧ min q l.length = q) ∨ (l.length < q ∧ min q l.length = l.length)) := by omega
        generalize min q l.length = M at *
        obtain ⟨hMl, hMc⟩ := hM
        have hlE : (adE 7 l l.length).length = l.length := adE_len 7 l (Nat.le_refl _)
        have hlD : ((adE 7 l l.length).drop M).length = l.length - M := by simp [hlE]
        have hlT : ((adE 7 l l.length).take M).length = M := by simp [hlE]; omega
        have hTD : (adE 7 l l.length).take M ++ (adE 7 l l.length).drop M = adE 7 l l.length := List.take_append_drop M _
        replace hlE := hide hlE
        replace hlD := hide hlD
        replace hlT := hide hlT
        replace hTD := hide hTD
        have hMs : M ≤ 40 := by omega
        have hbw : Below w.heap.size w w5 := (hbr.trans (hb4.mono hbr.size)).alloc (by have := hbr.size; omega) _ |>.trans (hb5.mono (by have := hbr.size; simp; omega))
        replace hMc : (q ≤ l.length ∧ Hid (M = q)) ∨ (l.length < q ∧ Hid (M = l.length)) := hMc
        rcases hMc with ⟨hq3, hMq⟩ | ⟨hq3, hMq⟩
        · have e1 : ((M : Int) == (q : Int)) = true := by rw [(unhide hMq)]; simp
          have e2 : (((l.length - M : Nat) : Int) == (l.length : Int) - (q : Int)) = true := by rw [(unhide hMq), beq_iff_eq]; omega
          go_wp2_with fail
          obtain ⟨W, hW⟩ : ∃ W, W = w5.alloc (Obj.cells #[Value.slice B1 l.length l.length, Value.int IntKind.i64 (7 + ↑l.length)] 25) := ⟨_, rfl⟩
          have fW : Below w5.heap.size w5 W := by rw [hW]; exact (Below.refl _ _).alloc (Nat.le_refl _) _
          have fz : W.heap.size = w5.heap.size + 1 := by rw [hW]; simp
          have g0 : W.cell? ⟨w2.heap.size, 0, none⟩ = some (.slice A' l.length c') := (fW.cell (p := ⟨w2.heap.size, 0, none⟩) h5y).trans d0
          have g1 : W.cell? ⟨w2.heap.size, 1, none⟩ = some (.int .i64 (7 + (l.length : Int))) := (fW.cell (p := ⟨w2.heap.size, 1, none⟩) h5y).trans d1
          have g2 : W.cell? ⟨w4.heap.size, 0, none⟩ = some (.slice A1 (l.length - M) (l.length - M)) := (fW.cell (p := ⟨w4.heap.size, 0, none⟩) h5z).trans d2
          have g3 : W.cell? ⟨w4.heap.size, 1, none⟩ = some (.int .i64 (7 + (l.length : Int))) := (fW.cell (p := ⟨w4.heap.size, 1, none⟩) h5z).trans d3
          have g4 : W.cell? ⟨w5.heap.size, 0, none⟩ = some (.slice B1 l.length l.length) := by rw [hW]; go_simp
          have g5 : W.cell? ⟨w5.heap.size, 1, none⟩ = some (.int .i64 (7 + (l.length : Int))) := by rw [hW]; go_simp
          rw [← hW]
          clear hW
          have tW0 : Sl W 0 W.heap.size 19 A' ((adE 7 l l.length).map Ent.arr) := (s5.below fW).more fW.size
          have tW1 : Sl W 0 W.heap.size 19 A1 (((adE 7 l l.length).drop M).map Ent.arr) := (t1.below fW).more fW.size
          have tW2 : Sl W 0 W.heap.size 19 A2 (((adE 7 l l.length).take M).map Ent.arr) := (t2.below fW).more fW.size
          have tW3 : Sl W 0 W.heap.size 19 B1 ((adE 7 l l.length).map Ent.arr) := by
            have := ((ht1.below fW).more fW.size).less (Nat.zero_le _)
            rwa [List.drop_zero] at this
          have bWB : Below W.heap.size W (W.alloc (Obj.cells #[] 29)).drew := ((Below.refl _ _).alloc (Nat.le_refl _) _).drew
          have oWB : Ow (W.alloc (Obj.cells #[] 29)).drew W.heap.size 29 19 (.slice (some ⟨W.heap.size, 0, none⟩) 0 0) (([] : List Ent).map Ent.arr) := (Ow.empty W 29 19).drew
          have hWw : w2.heap.size < W.heap.size ∧ w4.heap.size < W.heap.size ∧ w5.heap.size < W.heap.size := by omega
          obtain ⟨l1, l2, l3⟩ := hWw
          have hWn : W.heap.size ≤ (W.alloc (Obj.cells #[] 29)).drew.heap.size := by simp
          have g6 : IntKind.i64.wrap ((l.length : Int) - (q : Int)) = (l.length : Int) - (q : Int) := IntWalk.i64_in _ (by omega)
          replace fz := hide fz
          go_region_held3 (fun w' => Below W.heap.size W w' ∧ (∀ b o, b < W.heap.size → w'.cell? ⟨b, o, none⟩ = W.cell? ⟨b, o, none⟩) ∧ (∀ b o n, b < W.heap.size → rd w' b o n = rd W b o n))
            (first | with_reducible exact keepS b12 | with_reducible exact keepS b11 | with_reducible exact keepS b10 | with_reducible exact keepS b9 | with_reducible exact keepS b8 | with_reducible exact keepS b7 | with_reducible exact keepS bWB | with_reducible exact keepS (Below.refl _ _).drew)
            (first
              | (go_at_call 16; (with_reducible refine (sameEntries_eq A4 A' l.length c4 c' _ (adE 7 l l.length) (unhide hlE) (by omega) s8 ((tW0.below b8).more b8.size)).mono ?_); rintro e w9 ⟨rfl, hb9⟩; have b9 : Below W.heap.size W w9 := b8.trans (hb9.mono b8.size))
              | (go_at_call 18; (with_reducible refine (of_any _ B1 _ _ w9).mono ?_); rintro e w10 ⟨rfl, hb10⟩; have b10 : Below W.heap.size W w10 := b9.trans (hb10.mono b9.size))
              | (go_at_call 18; (with_reducible refine (of_any _ A' _ _ w10).mono ?_); rintro e w11 ⟨rfl, hb11⟩; have b11 : Below W.heap.size W w11 := b10.trans (hb11.mono b10.size))
              | (go_at_call 17; (with_reducible refine (same_eq B1 A' l.length _ c' _ _ (adE 7 l l.length) (unhide hlE) (by omega) ((tW3.below b11).more b11.size) ((tW0.below b11).more b11.size)).mono ?_); rintro e w12 ⟨rfl, hb12⟩; have b12 : Below W.heap.size W w12 := b11.trans (hb12.mono b11.size))
              | (refine step_append_ex (o := ⟨some 74, _, _, _, _, _⟩) (.tmp 72) (.tmp 73) 22 rfl (by rfl) ?_; obtain ⟨A3, c3, w7, hrun, ho3, hg3, hc3⟩ := run_append_ents (W.alloc (Obj.cells #[] 29)).drew W.heap.size 0 _ [] ((adE 7 l l.length).take M) oWB rfl 0 W.heap.size A2 M M (tW2.below bWB) (unhide hlT) (by omega) hWn 22; refine ⟨_, _, hrun, ?_⟩; have b7 : Below W.heap.size W w7 := below_grown bWB hg3 hWn (by rintro k e; cases e; exact Nat.le_refl _))
              | (refine step_append_ex (o := ⟨some 77, _, _, _, _, _⟩) (.tmp 74) (.tmp 76) 22 rfl (by rfl) ?_; obtain ⟨A4, c4, w8, hrun4, ho4, hg4, hc4⟩ := run_append_ents w7 W.heap.size (0 + M) _ ([] ++ (adE 7 l l.length).take M) ((adE 7 l l.length).drop M) ho3 (by rw [List.nil_append, (unhide hlT)]; omega) 0 W.heap.size A1 (l.length - M) (l.length - M) (tW1.below b7) (unhide hlD) (by omega) b7.size 22; refine ⟨_, _, hrun4, ?_⟩; have b8 : Below W.heap.size W w8 := below_grown b7 hg4 b7.size (fun k e => (ho3.lt k e).1); have s8 : Sl w8 0 w8.heap.size 19 A4 ((adE 7 l l.length).map Ent.arr) := (by have := (ho4.sl (Ent.sized _) (by omega)).less (Nat.zero_le _); rwa [List.nil_append, (unhide hTD)] at this)))
          go_wp2
          go_ret
          exact ⟨rfl, (hbw.trans (fW.mono (by have := hbw.size; omega))).trans (b12.mono (by have := hbw.size; have := fW.size; omega))⟩
        · have e1 : ((M : Int) == (l.length : Int)) = true := by rw [(unhide hMq)]; simp
          have e2 : (((l.length - M : Nat) : Int) == 0) = true := by rw [(unhide hMq), beq_iff_eq]; omega
          go_wp2_with fail
          obtain ⟨W, hW⟩ : ∃ W, W = w5.alloc (Obj.cells #[Value.slice B1 l.length l.length, Value.int IntKind.i64 (7 + ↑l.length)] 25) := ⟨_, rfl⟩
          have fW : Below w5.heap.size w5 W := by rw [hW]; exact (Below.refl _ _).alloc (Nat.le_refl _) _
          have fz : W.heap.size = w5.heap.size + 1 := by rw [hW]; simp
          have g0 : W.cell? ⟨w2.heap.size, 0, none⟩ = some (.slice A' l.length c') := (fW.cell (p := ⟨w2.heap.size, 0, none⟩) h5y).trans d0
          have g1 : W.cell? ⟨w2.heap.size, 1, none⟩ = some (.int .i64 (7 + (l.length : Int))) := (fW.cell (p := ⟨w2.heap.size, 1, none⟩) h5y).trans d1
          have g2 : W.cell? ⟨w4.heap.size, 0, none⟩ = some (.slice A1 (l.length - M) (l.length - M)) := (fW.cell (p := ⟨w4.heap.size, 0, none⟩) h5z).trans d2
          have g3 : W.cell? ⟨w4.heap.size, 1, none⟩ = some (.int .i64 (7 + (l.length : Int))) := (fW.cell (p := ⟨w4.heap.size, 1, none⟩) h5z).trans d3
          have g4 : W.cell? ⟨w5.heap.size, 0, none⟩ = some (.slice B1 l.length l.length) := by rw [hW]; go_simp
          have g5 : W.cell? ⟨w5.heap.size, 1, none⟩ = some (.int .i64 (7 + (l.length : Int))) := by rw [hW]; go_simp
          rw [← hW]
          clear hW
          have tW0 : Sl W 0 W.heap.size 19 A' ((adE 7 l l.length).map Ent.arr) := (s5.below fW).more fW.size
          have tW1 : Sl W 0 W.heap.size 19 A1 (((adE 7 l l.length).drop M).map Ent.arr) := (t1.below fW).more fW.size
          have tW2 : Sl W 0 W.heap.size 19 A2 (((adE 7 l l.length).take M).map Ent.arr) := (t2.below fW).more fW.size
          have tW3 : Sl W 0 W.heap.size 19 B1 ((adE 7 l l.length).map Ent.arr) := by
            have := ((ht1.below fW).more fW.size).less (Nat.zero_le _)
            rwa [List.drop_zero] at this
          have bWB : Below W.heap.size W (W.alloc (Obj.cells #[] 29)).drew := ((Below.refl _ _).alloc (Nat.le_refl _) _).drew
          have oWB : Ow (W.alloc (Obj.cells #[] 29)).drew W.heap.size 29 19 (.slice (some ⟨W.heap.size, 0, none⟩) 0 0) (([] : List Ent).map Ent.arr) := (Ow.empty W 29 19).drew
          have hWw : w2.heap.size < W.heap.size ∧ w4.heap.size < W.heap.size ∧ w5.heap.size < W.heap.size := by omega
          obtain ⟨l1, l2, l3⟩ := hWw
          have hWn : W.heap.size ≤ (W.alloc (Obj.cells #[] 29)).drew.heap.size := by simp
          have g6 : IntKind.i64.wrap 0 = 0 := rfl
          replace fz := hide fz
          go_region_held3 (fun w' => Below W.heap.size W w' ∧ (∀ b o, b < W.heap.size → w'.cell? ⟨b, o, none⟩ = W.cell? ⟨b, o, none⟩) ∧ (∀ b o n, b < W.heap.size → rd w' b o n = rd W b o n))
            (first | with_reducible exact keepS b12 | with_reducible exact keepS b11 | with_reducible exact keepS b10 | with_reducible exact keepS b9 | with_reducible exact keepS b8 | with_reducible exact keepS b7 | with_reducible exact keepS bWB | with_reducible exact keepS (Below.refl _ _).drew)
            (first
              | (go_at_call 16; (with_reducible refine (sameEntries_eq A4 A' l.length c4 c' _ (adE 7 l l.length) (unhide hlE) (by omega) s8 ((tW0.below b8).more b8.size)).mono ?_); rintro e w9 ⟨rfl, hb9⟩; have b9 : Below W.heap.size W w9 := b8.trans (hb9.mono b8.size))
              | (go_at_call 18; (with_reducible refine (of_any _ B1 _ _ w9).mono ?_); rintro e w10 ⟨rfl, hb10⟩; have b10 : Below W.heap.size W w10 := b9.trans (hb10.mono b9.size))
              | (go_at_call 18; (with_reducible refine (of_any _ A' _ _ w10).mono ?_); rintro e w11 ⟨rfl, hb11⟩; have b11 : Below W.heap.size W w11 := b10.trans (hb11.mono b10.size))
              | (go_at_call 17; (with_reducible refine (same_eq B1 A' l.length _ c' _ _ (adE 7 l l.length) (unhide hlE) (by omega) ((tW3.below b11).more b11.size) ((tW0.below b11).more b11.size)).mono ?_); rintro e w12 ⟨rfl, hb12⟩; have b12 : Below W.heap.size W w12 := b11.trans (hb12.mono b11.size))
              | (refine step_append_ex (o := ⟨some 74, _, _, _, _, _⟩) (.tmp 72) (.tmp 73) 22 rfl (by rfl) ?_; obtain ⟨A3, c3, w7, hrun, ho3, hg3, hc3⟩ := run_append_ents (W.alloc (Obj.cells #[] 29)).drew W.heap.size 0 _ [] ((adE 7 l l.length).take M) oWB rfl 0 W.heap.size A2 M M (tW2.below bWB) (unhide hlT) (by omega) hWn 22; refine ⟨_, _, hrun, ?_⟩; have b7 : Below W.heap.size W w7 := below_grown bWB hg3 hWn (by rintro k e; cases e; exact Nat.le_refl _))
              | (refine step_append_ex (o := ⟨some 77, _, _, _, _, _⟩) (.tmp 74) (.tmp 76) 22 rfl (by rfl) ?_; obtain ⟨A4, c4, w8, hrun4, ho4, hg4, hc4⟩ := run_append_ents w7 W.heap.size (0 + M) _ ([] ++ (adE 7 l l.length).take M) ((adE 7 l l.length).drop M) ho3 (by rw [List.nil_append, (unhide hlT)]; omega) 0 W.heap.size A1 (l.length - M) (l.length - M) (tW1.below b7) (unhide hlD) (by omega) b7.size 22; refine ⟨_, _, hrun4, ?_⟩; have b8 : Below W.heap.size W w8 := below_grown b7 hg4 b7.size (fun k e => (ho3.lt k e).1); have s8 : Sl w8 0 w8.heap.size 19 A4 ((adE 7 l l.length).map Ent.arr) := (by have := (ho4.sl (Ent.sized _) (by omega)).less (Nat.zero_le _); rwa [List.nil_append, (unhide hTD)] at this)))
          go_wp2
          go_ret
          exact ⟨rfl, (hbw.trans (fW.mono (by have := hbw.size; omega))).trans (b12.mono (by have := hbw.size; have := fW.size; omega))⟩
end Go.Proofs.Ytpblhedmfeddbaa
