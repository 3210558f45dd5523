/-
  BufferOrder: what is taken is what was added, in order; the walk.
-/
import Derived.Test.YtpblhedmfeddbaaTak
import Derived.BigQuiet
import Derived.Deep.QuietTactic
import Derived.StillTailTactics
namespace Go.Proofs.Ytpblhedmfeddbaa
open Go.RowKit
attribute [local go_sem] Ent.arr0 Ent.arr1 Ent.arr2 Ent.set1 Ent.set2 Ent.arr_size Ent.okW Ent.lit run_ldV_ent run_stV_ent ldR_some stR_true rd_new_whole rd_alloc canW_new canW_alloc wr_new wr_alloc rd_drew rd_drewN canW_drew canW_drewN run_bsS_ent run_bsS_ent0 run_eqI_ent rd_setCell rd_setCell_same canW_setCell' Option.map_some cell_wr_other rd_wr_same rd_wr_other
attribute [local go_sem ↓] ldV_ent stV_ent bsS_ent eqI_ent



theorem adE_get (nx : Int) (l : List Ent) {k : Nat} (hk : k < l.length) {h : k < (adE nx l l.length).length} : (adE nx l l.length)[k] = { l[k] with s := nx + (k : Int) } := by
  simp [adE]
theorem Sl.grown {w w' : World} {L B sz : Nat} {A : Option Addr} {xs : List (Array Value)} {row : Option Nat} (h : Sl w L B sz A xs) (hg : w.grownBy w' row) (hB : B ≤ w.heap.size) (hr : ∀ r, row = some r → r < L) : Sl w' L B sz A xs := fun hn => by
  obtain ⟨b, o, e, hL, hlt, hrd⟩ := h hn
  refine ⟨b, o, e, hL, hlt, fun i hi => (rd_congr (hg.block b (by omega) ?_) _ _).trans (hrd i hi)⟩
  intro e2
  have := hr b e2.symm
  omega
/-- the loop of takes: T are taken -/
def OrI (nx : Int) (l : List Ent) (m : Nat) (w : World) (B : Nat) (out i : Value) (wr : World) : Prop :=
  ∃ (k T c : Nat) (Ao : Option Addr), k ≤ m ∧ k ≤ 20 ∧ T ≤ l.length ∧ i = .int .i64 k ∧ out = .slice Ao T c ∧ T ≤ c ∧ Below w.heap.size w wr ∧ B + 1 ≤ wr.heap.size ∧
    BufAt wr (B + 1) B ((adE nx l l.length).drop T) (nx + l.length) ∧ Ow wr (B + 1) 29 19 out (((adE nx l l.length).take T).map Ent.arr)

set_option maxHeartbeats 4000000 in
theorem order_walk (A Ac : Option Addr) (c cc : Nat) (l : List Ent) (cs : List Int) (n : Int) (w : World) (hc : l.length ≤ c) (hm : c ≤ maxLen) (hs : Sl w 0 w.heap.size 19 A (l.map Ent.arr)) (hnn : I64 n)
    (hcc : cs.length ≤ cc) (hcm : cc ≤ maxLen) (hcs : Sl w 0 w.heap.size 1 Ac (cs.map fun x => #[.int .i64 x])) (hwf : ∀ x ∈ cs, I64 x) :
    Calls Try.prog 4 #[.int .i64 n, .slice A l.length c, .slice Ac cs.length cc] w fun e w' => e = .returned (.bool true) ∧ Below w.heap.size w w' := by
  unfold maxLen at hm hcm
  unfold I64 at hnn
  by_cases hlen : 40 < l.length
  · go_enter Try.func4, Try.ntmps4
    go_wp2_with fail
    refine (known_any _).mono ?_
    rintro e w1 ⟨rfl, hb1⟩
    go_wp2
    go_ret
    exact ⟨rfl, hb1⟩
  · have hlen' : l.length ≤ 40 := by omega
    go_enter Try.func4, Try.ntmps4
    go_wp2_with fail
    refine (known_any _).mono ?_
    rintro e w1 ⟨rfl, hb1⟩
    go_wp2_with fail
    refine (within_any _ _ _ (by omega) (by omega) (by omega)).mono ?_
    rintro e w3 ⟨rfl, rfl⟩
    have hq1 := Int.emod_nonneg n (b := 1000) (by omega)
    have hq2 := Int.emod_lt_of_pos n (b := 1000) (by omega)
    generalize n % 1000 = q at hq1 hq2 ⊢
    go_wp2_with fail
    refine (new_any _ _).mono ?_
    rintro e w2 ⟨rfl, hb2⟩
    have hb := hb1.trans (hb2.mono hb1.size)
    have hwz : w.heap.size ≤ w2.heap.size := hb.size
    obtain ⟨nx, hnx⟩ : ∃ nx, nx = 1 + q := ⟨_, rfl⟩
    rw [← hnx]
    have hnx1 : 1 ≤ nx ∧ nx ≤ 1000 := by omega
    clear hnx hq1 hq2
    go_wp2_with fail
    go_loopw [8] (fun i wr => AdI nx l w w2.heap.size i wr) (fun i _ => l.length - (intOf i).toNat)
    case atStart =>
      refine ⟨0, Nat.zero_le _, rfl, hb.alloc hwz _, by simp, ?_⟩
      rw [adE_zero]
      exact ⟨none, 0, Nat.le_refl _, by go_simp, by go_simp, fun o => frozen_new _ _ _ _ _ rfl, Sl.nil⟩
    case round =>
      obtain ⟨k, hk, rfl, hbr, hz, A', c', hc', f0, f1, f2, f5⟩ := hrel
      rw [adE_len nx l hk] at hc' f0
      have hz1 : w2.heap.size < wr.heap.size := by omega
      by_cases hkl : k < l.length
      · obtain ⟨b, o, rfl, _, hlt, hr⟩ := hs.at_ (k := k) (by simpa using hkl)
        simp only [List.getElem_map] at hr
        have hr1 : rd wr b (o + k * 19) 19 = some l[k].arr := (rd_below hbr hlt _ _).trans hr
        have fE := adE_succ nx l hkl
        replace fE := hide fE
        go_wp2_with fail
        go_still_tail 5, (by kernel_rfl)
        change wpList _ _ _ _ _ wr.drew
        have f5d : Sl wr.drew 0 wr.drew.heap.size 19 A' ((adE nx l k).map Ent.arr) := f5.less (Nat.zero_le _)
        go_wp2_with fail
        refine (add_n A' k c' _ _ (adE nx l k) l[k] (adE_len nx l hk) hc' (by omega) f5d (by omega) (by omega)).mono ?_
        rintro e w5 ⟨⟨A2, c2', rfl, hc2, hs2⟩, hb5⟩
        have c0 : w5.cell? ⟨w2.heap.size, 0, none⟩ = some (.slice A' k c') := (hb5.cell (p := ⟨w2.heap.size, 0, none⟩) hz1).trans f0
        have c1 : w5.cell? ⟨w2.heap.size, 1, none⟩ = some (.int .i64 (nx + (k : Int))) := (hb5.cell (p := ⟨w2.heap.size, 1, none⟩) hz1).trans f1
        have c2 : ∀ o, w5.frozen? ⟨w2.heap.size, o, none⟩ = false := fun o => (hb5.frozen (p := ⟨w2.heap.size, o, none⟩) hz1).trans (f2 o)
        go_wp2
        have h5z : wr.heap.size ≤ w5.heap.size := hb5.size
        refine ⟨⟨k + 1, by omega, by simp, ((hbr.drew.trans (hb5.mono hbr.size)).setCell (by simp; omega) _).setCell (by simp; omega) _, by simp [World.setCell]; omega, A2, c2', ?_, ?_, ?_, ?_, ?_⟩, by simp [intOf]; omega⟩
        · rw [adE_len nx l (by omega)]; exact hc2
        · rw [adE_len nx l (by omega)]; go_simp
        · go_simp
          omega
        · intro o
          rw [World.frozen?_setCell, World.frozen?_setCell]
          exact c2 o
        · rw [(unhide fE)]
          have hsz : ((w5.setCell { block := w2.heap.size, off := 0 } (Value.slice A2 (k + 1) c2')).setCell { block := w2.heap.size, off := 1 } (Value.int IntKind.i64 (nx + ↑k + 1))).heap.size = w5.heap.size := by simp [World.setCell]
          rw [hsz]
          have := (hs2.less (L' := w2.heap.size + 1) (by show _ ≤ wr.heap.size; omega))
          exact (this.setCell (.inl (by simp)) _).setCell (.inl (by simp)) _
      · obtain rfl : k = l.length := by omega
        go_wp2_with fail
        go_loopw [9, 10] (fun out i wr => OrI nx l cs.length w w2.heap.size out i wr) (fun _ i _ => 20 - (intOf i).toNat)
        case atStart =>
          refine ⟨0, 0, 0, none, by omega, by omega, by omega, rfl, rfl, by omega, hbr, hz, ?_, Ow.nil _ _ _ _⟩
          rw [List.drop_zero]
          exact ⟨A', c', by rw [adE_len nx l hk]; exact hc', by rw [adE_len nx l hk]; exact f0, f1, f2, f5⟩
        case round =>
          clear f0 f1 f2 f5 hc' hz hbr hz1 hk A' c'
          obtain ⟨k, T, co, Ao, hk1, hk2, hT, rfl, rfl, hco, hbr, hz, ⟨A', c', hc', f0, f1, f2, f5⟩, how⟩ := hrel
          have hlE : (adE nx l l.length).length = l.length := adE_len nx l (Nat.le_refl _)
          have hlD : ((adE nx l l.length).drop T).length = l.length - T := by simp [hlE]
          have hlT : ((adE nx l l.length).take T).length = T := by simp [hlE]; omega
          rw [hlD] at f0 hc'
          have hz1 : w2.heap.size < wr.heap.size := by omega
          by_cases hkl : k < cs.length ∧ k < 20
          · obtain ⟨hkl, hk20⟩ := hkl
            obtain ⟨b, o, rfl, _, hlt, hr⟩ := hcs.at_ (k := k) (by simpa using hkl)
            simp only [List.getElem_map] at hr
            have hr1 : rd wr b (o + k * 1) 1 = some #[.int .i64 cs[k]] := (rd_below hbr hlt _ _).trans hr
            have hr2 := rd_cell hr1 0 (by omega)
            simp only [Nat.mul_one, Nat.add_zero] at hr2
            obtain ⟨x, hx⟩ : ∃ x, x = cs[k] := ⟨_, rfl⟩
            have hxw := hwf _ (List.getElem_mem hkl)
            rw [← hx] at hr2 hxw
            unfold I64 at hxw
            have hq1 := Int.emod_nonneg x (b := 6) (by omega)
            have hq2 := Int.emod_lt_of_pos x (b := 6) (by omega)
            clear hx hr1 hr
            obtain ⟨m, hmq⟩ : ∃ m : Nat, (m : Int) = min (max (x % 6) 0) (l.length - T : Nat) := ⟨min (x % 6).toNat (l.length - T), by omega⟩
            have g4 : Sl wr.drew 0 wr.drew.heap.size 19 A' (((adE nx l l.length).drop T).map Ent.arr) := f5.less (Nat.zero_le _)
            have g5 : Sl (wr.alloc (Obj.cells #[Value.slice none 0 0, Value.int .i64 0] 25)).drew 0 (wr.alloc (Obj.cells #[Value.slice none 0 0, Value.int .i64 0] 25)).drew.heap.size 19 A' (((adE nx l l.length).drop T).map Ent.arr) := (g4.alloc (Nat.le_refl _) _).more (by simp)
            have hbZ : Below wr.heap.size wr (wr.alloc (Obj.cells #[Value.slice none 0 0, Value.int .i64 0] 25)).drew := ((Below.refl _ _).alloc (Nat.le_refl _) _).drew
            have hlZ : wr.heap.size < (wr.alloc (Obj.cells #[Value.slice none 0 0, Value.int .i64 0] 25)).drew.heap.size := by simp
            have hz0 : (wr.alloc (Obj.cells #[Value.slice none 0 0, Value.int .i64 0] 25)).drew.cell? ⟨wr.heap.size, 0, none⟩ = some (.slice none 0 0) := by go_simp
            have hz01 : (wr.alloc (Obj.cells #[Value.slice none 0 0, Value.int .i64 0] 25)).drew.cell? ⟨wr.heap.size, 1, none⟩ = some (.int .i64 0) := by go_simp
            have hz2 : ∀ o, (wr.alloc (Obj.cells #[Value.slice none 0 0, Value.int .i64 0] 25)).drew.frozen? ⟨wr.heap.size, o, none⟩ = false := fun o => frozen_new _ _ _ _ _ rfl
            replace hz0 := hide hz0
            replace hz01 := hide hz01
            have hbl : b < wr.heap.size := Nat.lt_of_lt_of_le hlt hbr.size
            replace hlE := hide hlE
            go_wp2_with fail
            go_region_held3 (fun w' => Below wr.heap.size wr w' ∧ (∀ b o, b < wr.heap.size → w'.cell? ⟨b, o, none⟩ = wr.cell? ⟨b, o, none⟩) ∧ (∀ b o n, b < wr.heap.size → rd w' b o n = rd wr b o n))
              (first | with_reducible exact keepS hbb | with_reducible exact keepS hbZ | with_reducible exact keepS (Below.refl _ _).drew | with_reducible exact keepS (hbb.alloc hbb.size _) | with_reducible exact keepS ((hbb.setCell (p := ⟨wr.heap.size, 0, none⟩) (Nat.le_refl wr.heap.size) _).setCell (p := ⟨wr.heap.size, 1, none⟩) (Nat.le_refl wr.heap.size) _))
              (first
                | (go_at_call 12; (with_reducible refine (within_any x 6 _ hxw (by omega) (by omega)).mono ?_); rintro e w' ⟨rfl, rfl⟩)
                | (go_at_call 15; (with_reducible refine (take_n A' (l.length - T) c' _ _ _ ((adE nx l l.length).drop T) hlD hc' (by omega) g4 m hmq).mono ?_); rintro e w6 ⟨⟨C1, C2, rfl, hs1, hs2⟩, hb6⟩; have hbb : Below wr.heap.size wr w6 := Below.trans (Below.drew (Below.refl wr.heap.size wr)) hb6)
                | (go_at_call 15; (with_reducible refine (take_n A' (l.length - T) c' _ _ _ ((adE nx l l.length).drop T) hlD hc' (by omega) g5 m hmq).mono ?_); rintro e w6 ⟨⟨C1, C2, rfl, hs1, hs2⟩, hb6⟩; have hbb : Below wr.heap.size wr w6 := Below.trans hbZ (hb6.mono (Nat.le_of_lt hlZ)); have y0 : w6.cell? ⟨wr.heap.size, 0, none⟩ = some (.slice none 0 0) := (hb6.cell (p := ⟨wr.heap.size, 0, none⟩) hlZ).trans (unhide hz0); have y1 : w6.cell? ⟨wr.heap.size, 1, none⟩ = some (.int .i64 0) := (hb6.cell (p := ⟨wr.heap.size, 1, none⟩) hlZ).trans (unhide hz01); have y2 : ∀ o, w6.frozen? ⟨wr.heap.size, o, none⟩ = false := fun o => (hb6.frozen (p := ⟨wr.heap.size, o, none⟩) hlZ).trans (hz2 o)))
            all_goals
              have h6z : wr.heap.size ≤ w6.heap.size := hbb.size
              first
                | obtain ⟨V, hV⟩ : ∃ V, w6.alloc (Obj.cells #[Value.slice C1 (l.length - T - m) (l.length - T - m), Value.int IntKind.i64 (nx + ↑l.length)] 25) = V := ⟨_, rfl⟩
                  rw [hV]
                  have bV : Below wr.heap.size wr V := by rw [← hV]; exact hbb.alloc hbb.size _
                  have hB1 : wr.heap.size ≤ w6.heap.size ∧ w6.heap.size < V.heap.size := by rw [← hV]; simp; omega
                  have v0 : V.cell? ⟨w6.heap.size, 0, none⟩ = some (.slice C1 (l.length - T - m) (l.length - T - m)) := by rw [← hV]; clear hV; go_simp
                  have v1 : V.cell? ⟨w6.heap.size, 1, none⟩ = some (.int .i64 (nx + ↑l.length)) := by rw [← hV]; clear hV; go_simp
                  have sV1 : Sl V wr.heap.size V.heap.size 19 C1 ((((adE nx l l.length).drop T).drop m).map Ent.arr) := by rw [← hV]; exact ((hs1.alloc (Nat.le_refl _) _).more (by simp)).less (by simp)
                  have sV2 : Sl V wr.heap.size V.heap.size 19 C2 ((((adE nx l l.length).drop T).take m).map Ent.arr) := by rw [← hV]; exact ((hs2.alloc (Nat.le_refl _) _).more (by simp)).less (by simp)
                  obtain ⟨Bc, hBc⟩ : ∃ Bc, w6.heap.size = Bc := ⟨_, rfl⟩
                  rw [hBc] at hB1 v0 v1 ⊢
                | obtain ⟨V, hV⟩ : ∃ V, (w6.setCell { block := wr.heap.size, off := 0 } (Value.slice C1 (l.length - T - m) (l.length - T - m))).setCell { block := wr.heap.size, off := 1 } (Value.int IntKind.i64 (nx + ↑l.length)) = V := ⟨_, rfl⟩
                  rw [hV]
                  have bV : Below wr.heap.size wr V := by rw [← hV]; exact (hbb.setCell (p := ⟨wr.heap.size, 0, none⟩) (Nat.le_refl wr.heap.size) _).setCell (p := ⟨wr.heap.size, 1, none⟩) (Nat.le_refl wr.heap.size) _
                  have hB1 : wr.heap.size ≤ wr.heap.size ∧ wr.heap.size < V.heap.size := ⟨Nat.le_refl _, by rw [← hV]; simp [World.setCell]; have := hb6.size; simp at this; omega⟩
                  have v0 : V.cell? ⟨wr.heap.size, 0, none⟩ = some (.slice C1 (l.length - T - m) (l.length - T - m)) := by rw [← hV]; clear hV; go_simp
                  have v1 : V.cell? ⟨wr.heap.size, 1, none⟩ = some (.int .i64 (nx + ↑l.length)) := by rw [← hV]; clear hV; go_simp
                  have sV1 : Sl V wr.heap.size V.heap.size 19 C1 ((((adE nx l l.length).drop T).drop m).map Ent.arr) := by
                    rw [← hV]
                    have hsz : ((w6.setCell { block := wr.heap.size, off := 0 } (Value.slice C1 (l.length - T - m) (l.length - T - m))).setCell { block := wr.heap.size, off := 1 } (Value.int IntKind.i64 (nx + ↑l.length))).heap.size = w6.heap.size := by simp [World.setCell]
                    rw [hsz]
                    exact ((hs1.setCell (.inl (by simp)) _).setCell (.inl (by simp)) _).less (by simp)
                  have sV2 : Sl V wr.heap.size V.heap.size 19 C2 ((((adE nx l l.length).drop T).take m).map Ent.arr) := by
                    rw [← hV]
                    have hsz : ((w6.setCell { block := wr.heap.size, off := 0 } (Value.slice C1 (l.length - T - m) (l.length - T - m))).setCell { block := wr.heap.size, off := 1 } (Value.int IntKind.i64 (nx + ↑l.length))).heap.size = w6.heap.size := by simp [World.setCell]
                    rw [hsz]
                    exact ((hs2.setCell (.inl (by simp)) _).setCell (.inl (by simp)) _).less (by simp)
                  obtain ⟨Bc, hBc⟩ : ∃ Bc, wr.heap.size = Bc := ⟨_, rfl⟩
                  replace hB1 : wr.heap.size ≤ Bc ∧ Bc < V.heap.size := by rw [← hBc]; exact hB1
                  rw [hBc] at v0 v1 ⊢
              clear hV
              have p0 : V.cell? ⟨w2.heap.size, 0, none⟩ = some (.slice A' (l.length - T) c') := (bV.cell (p := ⟨w2.heap.size, 0, none⟩) hz1).trans f0
              have p1 : V.cell? ⟨w2.heap.size, 1, none⟩ = some (.int .i64 (nx + (l.length : Int))) := (bV.cell (p := ⟨w2.heap.size, 1, none⟩) hz1).trans f1
              have p2 : ∀ o, V.frozen? ⟨w2.heap.size, o, none⟩ = false := fun o => (bV.frozen (p := ⟨w2.heap.size, o, none⟩) hz1).trans (f2 o)
              have oV : Ow V (w2.heap.size + 1) 29 19 (.slice Ao T co) (((adE nx l l.length).take T).map Ent.arr) := how.below bV (fun g hg => (how.lt g hg).2)
              have hVz : wr.heap.size ≤ V.heap.size := bV.size
              clear hs1 hs2 hb6
              go_wp2_with fail
              have hml : m ≤ l.length - T := by omega
              have hTm : (((adE nx l l.length).drop T).take m).length = m := by rw [List.length_take, hlD]; omega
              replace hTm := hide hTm
              go_region_held3 (fun w' => Below w2.heap.size V w' ∧ w'.cell? ⟨Bc, 0, none⟩ = some (.slice C1 (l.length - T - m) (l.length - T - m)) ∧ w'.cell? ⟨Bc, 1, none⟩ = some (.int .i64 (nx + ↑l.length)))
                (first | with_reducible exact ⟨b7, x0, x1⟩ | exact ⟨(Below.refl _ _).drew, v0, v1⟩ | with_reducible exact ⟨(b7.setCell (p := ⟨w2.heap.size, 0, none⟩) (Nat.le_refl w2.heap.size) _).setCell (p := ⟨w2.heap.size, 1, none⟩) (Nat.le_refl w2.heap.size) _, by go_simp, by go_simp⟩ | exact ⟨(((Below.refl _ _).setCell (p := ⟨w2.heap.size, 0, none⟩) (Nat.le_refl w2.heap.size) _).setCell (p := ⟨w2.heap.size, 1, none⟩) (Nat.le_refl w2.heap.size) _).drew, by go_simp, by go_simp⟩)
                (first
                  | (refine step_append_ex (o := ⟨some 62, _, _, _, _, _⟩) (.tmp 60) (.tmp 61) 22 rfl (by rfl) ?_; obtain ⟨Ao2, co2, w7, hrun, ho7, hg7, hc7⟩ := run_append_ents V.drew (w2.heap.size + 1) T _ ((adE nx l l.length).take T) (((adE nx l l.length).drop T).take m) oV.drew hlT wr.heap.size V.heap.size C2 m m sV2 (unhide hTm) (by omega) (by show _ ≤ V.heap.size; omega) 22; refine ⟨_, _, hrun, ?_⟩; clear hrun; have b7 : Below w2.heap.size V w7 := below_grown (Below.refl _ _).drew hg7 (by show _ ≤ V.heap.size; omega) (fun k e => by have := (oV.lt k e).1; omega); have x0 : w7.cell? ⟨Bc, 0, none⟩ = some (.slice C1 (l.length - T - m) (l.length - T - m)) := (World.cell?_of_block (hg7.block Bc (by show Bc < V.heap.size; exact hB1.2) (fun e => by have := (oV.lt Bc e.symm).2; have := (how.lt Bc e.symm).2; omega))).trans v0; have x1 : w7.cell? ⟨Bc, 1, none⟩ = some (.int .i64 (nx + ↑l.length)) := (World.cell?_of_block (hg7.block Bc (by show Bc < V.heap.size; exact hB1.2) (fun e => by have := (how.lt Bc e.symm).2; omega))).trans v1; have b8 : Below (w2.heap.size + 1) V w7 := below_grown (Below.refl _ _).drew hg7 (by show _ ≤ V.heap.size; omega) (fun k e => (oV.lt k e).1); have q0 : w7.cell? ⟨w2.heap.size, 0, none⟩ = some (.slice A' (l.length - T) c') := (b8.cell (p := ⟨w2.heap.size, 0, none⟩) (Nat.lt_succ_self _)).trans p0; have q1 : w7.cell? ⟨w2.heap.size, 1, none⟩ = some (.int .i64 (nx + (l.length : Int))) := (b8.cell (p := ⟨w2.heap.size, 1, none⟩) (Nat.lt_succ_self _)).trans p1; have q2 : ∀ o, w7.frozen? ⟨w2.heap.size, o, none⟩ = false := fun o => (b8.frozen (p := ⟨w2.heap.size, o, none⟩) (Nat.lt_succ_self _)).trans (p2 o)))
              have s7 : Sl w7 wr.heap.size V.heap.size 19 C1 ((((adE nx l l.length).drop T).drop m).map Ent.arr) := sV1.grown (w := V) ⟨hg7.os, hg7.tape, hg7.output, hg7.size, hg7.block⟩ (Nat.le_refl _) (fun r e => (how.lt r e).2)
              have b7w : Below w.heap.size w w7 := (hbr.trans (bV.mono hbr.size)).trans (b8.mono (by omega))
              have h7z : V.heap.size ≤ w7.heap.size := hg7.size
              go_wp2_with fail
              refine ⟨⟨k + 1, T + m, co2, Ao2, by omega, by omega, by omega, by simp, rfl, hc7, (b7w.setCell (p := ⟨w2.heap.size, 0, none⟩) (by show _ ≤ w2.heap.size; omega) _).setCell (p := ⟨w2.heap.size, 1, none⟩) (by show _ ≤ w2.heap.size; omega) _, by simp [World.setCell]; omega, ?_, ?_⟩, by simp [intOf]; omega⟩
              · have hlL : ((adE nx l l.length).drop (T + m)).length = l.length - T - m := by simp [(unhide hlE)]; omega
                refine ⟨C1, l.length - T - m, by rw [hlL]; exact Nat.le_refl _, ?_, ?_, ?_, ?_⟩
                · rw [hlL]; go_simp
                · go_simp
                · intro o
                  rw [World.frozen?_setCell, World.frozen?_setCell]
                  exact q2 o
                · have hsz : ((w7.setCell { block := w2.heap.size, off := 0 } (Value.slice C1 (l.length - T - m) (l.length - T - m))).setCell { block := w2.heap.size, off := 1 } (Value.int IntKind.i64 (nx + ↑l.length))).heap.size = w7.heap.size := by simp [World.setCell]
                  rw [hsz, ← List.drop_drop]
                  exact ((((s7.more h7z).less hz).setCell (.inl (by simp)) _).setCell (.inl (by simp)) _)
              · rw [List.take_add]
                exact (ho7.setCell (by simp) _).setCell (by simp) _
          · have hex : cs.length ≤ k ∨ (k < cs.length ∧ 20 ≤ k) := by omega
            have hmT : ((l.length - T : Nat) : Int) = min (max (l.length : Int) 0) (l.length - T : Nat) := by omega
            have f5' := f5.less (L' := 0) (Nat.zero_le _)
            rcases hex with hge | ⟨hge, hge2⟩
            all_goals
              go_wp2_with fail
              refine (take_n A' (l.length - T) c' _ _ _ ((adE nx l l.length).drop T) hlD hc' (by omega) f5' (l.length - T) hmT).mono ?_
              rintro e w8 ⟨⟨D1, D2, rfl, ht1, ht2⟩, hb8⟩
              have h8z : wr.heap.size ≤ w8.heap.size := hb8.size
              have hDr : (((adE nx l l.length).drop T).take (l.length - T)) = (adE nx l l.length).drop T := List.take_of_length_le (by omega)
              rw [hDr] at ht2
              obtain ⟨W, hW⟩ : ∃ W, W = w8.alloc (Obj.cells #[Value.slice D1 0 0, Value.int IntKind.i64 (nx + ↑l.length)] 25) := ⟨_, rfl⟩
              have bW : Below wr.heap.size wr W := by rw [hW]; exact hb8.alloc h8z _
              have oW : Ow W (w2.heap.size + 1) 29 19 (.slice Ao T co) (((adE nx l l.length).take T).map Ent.arr) := how.below bW (fun g hg => (how.lt g hg).2)
              have sW : Sl W wr.heap.size W.heap.size 19 D2 (((adE nx l l.length).drop T).map Ent.arr) := by rw [hW]; exact (ht2.alloc (Nat.le_refl _) _).more (by simp)
              have zW : wr.heap.size ≤ W.heap.size := bW.size
              obtain ⟨A9, c9, w9, hrun, ho9, hg9, hc9⟩ := run_append_ents W (w2.heap.size + 1) T _ ((adE nx l l.length).take T) ((adE nx l l.length).drop T) oW hlT wr.heap.size W.heap.size D2 (l.length - T) (l.length - T) sW hlD (by omega) (by omega) 22
              have hTT : T + (l.length - T) = l.length := by omega
              rw [hTT, List.take_append_drop] at ho9
              rw [hTT] at hrun hc9
              have b9 : Below (w2.heap.size + 1) W w9 := below_grown (Below.refl _ _) hg9 (by omega) (fun k e => (oW.lt k e).1)
              have q1 : w9.cell? ⟨w2.heap.size, 1, none⟩ = some (.int .i64 (nx + (l.length : Int))) := (b9.cell (p := ⟨w2.heap.size, 1, none⟩) (Nat.lt_succ_self _)).trans ((bW.cell (p := ⟨w2.heap.size, 1, none⟩) hz1).trans f1)
              have hb9 : Below w.heap.size w w9 := (hbr.trans (bW.mono hbr.size)).trans (b9.mono (by omega))
              have s9 : Sl w9 0 w9.heap.size 19 A9 ((adE nx l l.length).map Ent.arr) := (ho9.sl (Ent.sized _) (by omega)).less (Nat.zero_le _)
              have g6 : IntKind.i64.wrap (nx + (l.length : Int)) = nx + (l.length : Int) := IntWalk.i64_in _ (by omega)
              rw [hW] at hrun
              replace hrun := hide hrun
              replace hlE := hide hlE
              clear hW bW oW sW ho9 ht1 ht2 hb8 f5' f5 how b9 hmT hDr hTT hlD hlT
              go_wp2_with (at_builtin; refine wpList_step (fun K hK => step_append_ex (o := ⟨some 72, _, _, _, _, _⟩) (.tmp 70) (.tmp 71) 22 rfl (by rfl) ⟨_, _, (unhide hrun), hK _ _ ?_⟩))
              replace hlE := (unhide hlE)
              go_loopw [15] (fun i wr => ∃ j : Nat, j ≤ l.length ∧ i = .int .i64 j ∧ Below w9.heap.size w9 wr) (fun i _ => l.length - (intOf i).toNat)
              case atStart => exact ⟨0, Nat.zero_le _, rfl, Below.refl _ _⟩
              case round =>
                obtain ⟨j, hj, rfl, hbx⟩ := hrel
                by_cases hjl : j < l.length
                · obtain ⟨b1, o1, rfl, _, hlt1, hr1⟩ := hs.at_ (k := j) (by simpa using hjl)
                  obtain ⟨b2, o2, rfl, _, hlt2, hr2⟩ := s9.at_ (k := j) (by rw [List.length_map, hlE]; exact hjl)
                  have r1 := (rd_below hbx (by have := hb9.size; omega) _ _).trans ((rd_below hb9 hlt1 _ _).trans hr1)
                  have r2 := (rd_below hbx hlt2 _ _).trans hr2
                  simp only [List.getElem_map, adE_get nx l hjl] at r1 r2
                  have hbx2 : b1 < wr.heap.size := by have := hb9.size; have := hbx.size; omega
                  have hbx3 : b2 < wr.heap.size := by have := hbx.size; omega
                  have hbwr : Below w9.heap.size w9 wr := hbx
                  have g7 : IntKind.i64.wrap (nx + (j : Int)) = nx + (j : Int) := IntWalk.i64_in _ (by omega)
                  replace hlE := hide hlE
                  clear hr1 hr2
                  go_wp2_with fail
                  go_quiet (fail)
                  go_wp2
                  exact ⟨⟨j + 1, by omega, by simp, (fun h : Below w9.heap.size w9 (wr.alloc _) => ⟨h.os, h.tape, h.output, h.size, h.block⟩) (hbx.alloc hbx.size _)⟩, by simp [intOf]; omega⟩
                · obtain rfl : j = l.length := by omega
                  replace hlE := hide hlE
                  go_wp2
                  go_ret
                  exact ⟨rfl, hb9.trans (hbx.mono hb9.size)⟩
end Go.Proofs.Ytpblhedmfeddbaa
