/-
  Superblocks made of raw rows (ramekinlaw14.Make).
-/
import Derived.Test.YtnihgfhaenpfkaaMi
namespace Go.Proofs.Ytnihgfhaenpfkaa.Base
open Go.RowKit Go.Proofs.YtnihgfhaenpfkaaW.PrintWords Go.Proofs.YtnihgfhaenpfkaaW.PrintLast
set_option linter.unusedSimpArgs false
set_option linter.unusedVariables false
attribute [local go_sem] Ent.arr0 Ent.arr1 Ent.arr2 Ent.set1 Ent.set2 Ent.arr_size Ent.okW Ent.lit run_ldV_ent run_stV_ent ldR_some stR_true rd_new_whole rd_alloc canW_new canW_alloc wr_new wr_alloc rd_drew rd_drewN canW_drew canW_drewN run_bsS_ent run_bsS_ent0 run_eqI_ent rd_setCell rd_setCell_same canW_setCell' Option.map_some cell_wr_other rd_wr_same rd_wr_other
attribute [local go_sem ↓] ldV_ent stV_ent bsS_ent eqI_ent
attribute [local go_sem] Ent.arr0g Ent.arr1g Ent.arr2g run_ldV_dat rd_dat run_eqI_dat dat_lit
attribute [local go_sem ↓] ldV_dat eqI_dat
attribute [local go_sem] run_mk5
set_option maxRecDepth 100000 in
set_option maxHeartbeats 4000000 in
theorem make_any (A : Option Addr) (c : Nat) (L : List RawD) (w : World) (hwf : ∀ r ∈ L, r.Wf) (hs : Raws w w.heap.size A L) :
    Calls Try.prog 8 #[.slice A L.length c] w fun x w' => ∃ S, x = .returned (.slice (some ⟨w.heap.size, 0, none⟩) 5 5) ∧ MkI w w.heap.size 12 S w' := by
  go_enter Try.func8, Try.ntmps8
  go_wp2_with fail
  obtain ⟨BO, hBO⟩ : ∃ BO, BO = w.heap.size := ⟨_, rfl⟩
  have hI0 : MkI w BO 0 (List.replicate 5 zS) (w.alloc (.cells zeros5 43)) := by
    refine ⟨(Below.refl _ _).alloc (Nat.le_refl _) _, rfl, ⟨by rw [hBO, heap_alloc_new]; rfl, fun x hx => ?_⟩, fun s hs => ?_, fun i j hi hj hij g hg => ?_⟩
    · obtain ⟨s, hs, rfl⟩ := List.mem_map.1 hx; rfl
    · rw [List.eq_of_mem_replicate hs]; exact ⟨by simp [zS], Ow.nil _ _ _ _, fun r hr => by simp [zS] at hr⟩
    · simp only [List.getElem_replicate] at hg
      exact absurd hg (by simp [zS, Value.ownBlock])
  rw [← hBO]
  replace hBO := hide hBO
  go_loopw [4] (fun s4 wr => ∃ (i : Nat) (S : List SupD), i ≤ 12 ∧ i ≤ L.length ∧ s4 = .int .i64 i ∧ MkI w BO i S wr) (fun s4 _ => L.length - (intOf s4).toNat)
  case atStart => exact ⟨0, _, by omega, by omega, rfl, hI0⟩
  case round =>
    clear hI0
    obtain ⟨i, S, hi12, hiL, rfl, hI⟩ := hrel
    have hz := hI.b.size
    by_cases hlt : i < L.length ∧ i < 12
    · obtain ⟨hlt1, hlt2⟩ := hlt
      have hltI : (i : Int) < L.length := by omega
      have hlt2I : (i : Int) < 12 := by omega
      obtain ⟨b, o, rfl, _, hbl, hr⟩ := hs.1.at_ (k := i) (by simpa using hlt1)
      simp only [List.getElem_map] at hr
      obtain ⟨r, hrT⟩ : ∃ r, r = L[i] := ⟨_, rfl⟩
      have hrr := hs.2 r (by rw [hrT]; exact List.getElem_mem hlt1)
      obtain ⟨v1, v2, v3, v4, v5⟩ := hwf r (by rw [hrT]; exact List.getElem_mem hlt1)
      rw [← hrT] at hr
      have hr2 := (rd_below hI.b hbl _ _).trans hr
      have c0 : wr.cell? ⟨b, o + i * 4, none⟩ = some (.int .i64 r.su) := rd_cell hr2 0 (by omega)
      have c1 : wr.cell? ⟨b, o + i * 4 + 1, none⟩ = some (.int .i64 r.se) := rd_cell hr2 1 (by omega)
      have c2 : wr.cell? ⟨b, o + i * 4 + 2, none⟩ = some (.int .i64 r.at_) := rd_cell hr2 2 (by omega)
      have c3 : wr.cell? ⟨b, o + i * 4 + 3, none⟩ = some (.slice r.A r.es.length r.c) := rd_cell hr2 3 (by omega)
      obtain ⟨k30, hk30, hw30⟩ := w14_lt r.se 30 v2 (by omega) (by omega)
      obtain ⟨k8, hk8, hw8⟩ := w14_lt r.at_ 8 v3 (by omega) (by omega)
      obtain ⟨k5, hk5, hw5⟩ := w14_lt r.su 5 v1 (by omega) (by omega)
      have hbz : b < wr.heap.size := by omega
      clear hr hr2 hrT
      go_wp2_with fail
      apply wp_once
      case hreg =>
        go_region_held3 (fun w' => w'.cell? ⟨b, o + i * 4 + 1, none⟩ = some (.int .i64 r.se) ∧ w'.cell? ⟨b, o + i * 4 + 2, none⟩ = some (.int .i64 r.at_))
          (first | with_reducible exact ⟨c1, c2⟩ | exact ⟨(World.cell?_drew _ _).trans c1, (World.cell?_drew _ _).trans c2⟩ | (refine ⟨?_, ?_⟩ <;> go_simp))
          (first
            | (go_at_call 7; (with_reducible refine (hw30 _).mono ?_); rintro e w' ⟨rfl, rfl⟩)
            | (go_at_call 7; (with_reducible refine (hw8 _).mono ?_); rintro e w' ⟨rfl, rfl⟩))
        all_goals exact ⟨rfl, rfl, rfl⟩
      case h =>
        simp only [Exit.then]
        apply_assumption
        clear c1 c2
        generalize IntKind.i64.wrap (1 + (k30 : Int)) = V30
        obtain ⟨Wo, rfl⟩ : ∃ Wo, Wo = wr := ⟨_, rfl⟩
        obtain ⟨W5, hW5⟩ : ∃ W5, W5 = (Wo.alloc (Obj.cells #[Value.int .i64 V30, Value.int .i64 k8, Value.slice none 0 0] 47)).drew := ⟨_, rfl⟩
        obtain ⟨B5, hB5⟩ : ∃ B5, B5 = Wo.heap.size := ⟨_, rfl⟩
        have z5 : W5.heap.size = B5 + 1 := by rw [hW5, hB5]; simp
        have b5 : Below B5 Wo W5 := by rw [hW5, hB5]; exact ((Below.refl _ _).alloc (Nat.le_refl _) _).drew
        have f5 : W5.heap[B5]? = some (.cells #[.int .i64 V30, .int .i64 k8, .slice none 0 0] 47 (0, 0)) := by rw [hW5, hB5]; exact heap_alloc_new _ _
        rw [← hW5, ← hB5]
        replace hW5 := hide hW5
        replace z5 := hide z5
        replace hB5 := hide hB5
        go_wp2_with fail
        go_loopw [6] (fun s6 wr => ∃ (k : Nat) (A2 : Option Addr) (c2 : Nat) (es' : List Ent), k ≤ 6 ∧ k ≤ r.es.length ∧ s6 = .int .i64 k ∧ es'.length = k ∧ (∀ e ∈ es', OkS e) ∧ Below B5 Wo wr ∧ wr.heap[B5]? = some (.cells #[.int .i64 V30, .int .i64 k8, .slice A2 k c2] 47 (0, 0)) ∧ k ≤ c2 ∧ Ow wr (B5 + 1) 37 19 (.slice A2 k c2) (es'.map Ent.arr)) (fun s6 _ => r.es.length - (intOf s6).toNat)
        case atStart => exact ⟨0, none, 0, [], by omega, by omega, rfl, rfl, fun e he => by simp at he, b5, f5, by omega, Ow.nil _ _ _ _⟩
        case round =>
          clear b5 f5
          obtain ⟨k, A2, c2, es', hk6, hkl, rfl, hel, hes, hb, hfb, hc2, ho⟩ := hrel
          have hz6 := hb.size
          have hbB : b < B5 := by rw [unhide hB5]; exact hbz
          have c3r := (hb.cell (p := ⟨b, o + i * 4 + 3, none⟩) hbB).trans c3
          have f2 : wr.cell? ⟨B5, 2, none⟩ = some (.slice A2 k c2) := by simp [World.cell?, hfb]
          have f2f : wr.frozen? ⟨B5, 2, none⟩ = false := by simp [World.frozen?, hfb]
          have hB5l : B5 < wr.heap.size := (Array.getElem?_eq_some_iff.1 hfb).1
          replace hfb := hide hfb
          replace hel := hide hel
          by_cases hkE : k < r.es.length ∧ k < 6
          · obtain ⟨hkE1, hkE2⟩ := hkE
            have hkI : (k : Int) < r.es.length := by omega
            have hkI6 : (k : Int) < 6 := by omega
            obtain ⟨b3, o3, hA3, _, hbl3, hr⟩ := hrr.at_ (k := k) (by simpa using hkE1)
            simp only [List.getElem_map] at hr
            rw [hA3] at c3r
            obtain ⟨X, hX⟩ : ∃ X, X = r.es[k] := ⟨_, rfl⟩
            have hXw := v5 X (by rw [hX]; exact List.getElem_mem hkE1)
            rw [← hX] at hr
            have hbB3 : b3 < B5 := by rw [unhide hB5]; omega
            have hr3 := (rd_below hb hbB3 _ _).trans ((rd_below hI.b hbl3 _ _).trans hr)
            clear hr hX hA3
            have hgood := fun w => good_any X w hXw.1 hXw.2.1 hXw.2.2.1
            have hG0 : 0 ≤ (goodE X).s := by
              have := Int.emod_nonneg X.s (b := 1000) (by omega)
              unfold goodE
              split
              · show 0 ≤ 1 + X.s % 1000; omega
              · split
                · show 0 ≤ 1 + X.s % 1000; omega
                · show (0 : Int) ≤ 0; omega
            obtain ⟨G, hG⟩ : ∃ G, G = goodE X := ⟨_, rfl⟩
            rw [← hG] at hG0
            simp only [← hG] at hgood
            clear hG hXw
            go_wp2_with fail
            (with_reducible refine (hgood _).mono ?_)
            rintro e w2 ⟨rfl, hb2⟩
            have f2b := (hb2.cell (p := ⟨B5, 2, none⟩) hB5l).trans f2
            have f2fb := (hb2.frozen (p := ⟨B5, 2, none⟩) hB5l).trans f2f
            have h2z := hb2.size
            have hB52 : B5 < w2.heap.size := by omega
            clear f2 f2f hr3 c3r hgood
            have ho2 := ho.below hb2 (fun g hg => (ho.lt g hg).2)
            have hfb2 := (hb2.block B5 hB5l).trans (unhide hfb)
            have hbw2 : Below B5 Wo w2 := hb.trans (hb2.mono (by omega))
            have happ : ∀ E : Ent, ∃ A3 c3 w4, (Builtin.append_ #[27, 27] 27 #[.slice A2 k c2, .slice (some ⟨w2.heap.size + 1, 0, none⟩) 1 1]).run Try.prog ((w2.alloc (.cells E.arr 37)).alloc (.cells E.arr 37)) = .ok (.slice A3 (k + 1) c3) w4 ∧
                w4.cell? ⟨B5, 2, none⟩ = some (.slice A2 k c2) ∧ w4.frozen? ⟨B5, 2, none⟩ = false ∧ Below B5 Wo (w4.setCell ⟨B5, 2, none⟩ (.slice A3 (k + 1) c3)) ∧
                (w4.setCell ⟨B5, 2, none⟩ (.slice A3 (k + 1) c3)).heap[B5]? = some (.cells #[.int .i64 V30, .int .i64 k8, .slice A3 (k + 1) c3] 47 (0, 0)) ∧
                Ow (w4.setCell ⟨B5, 2, none⟩ (.slice A3 (k + 1) c3)) (B5 + 1) 37 19 (.slice A3 (k + 1) c3) ((es' ++ [E]).map Ent.arr) ∧ k + 1 ≤ c3 := fun E => by
              have hoE := (ho2.alloc (.cells E.arr 37)).alloc (.cells E.arr 37)
              obtain ⟨A3, c3, w4, hrun, ho4, hg4, hc4⟩ := run_append_ents ((w2.alloc (.cells E.arr 37)).alloc (.cells E.arr 37)) (B5 + 1) k (.slice A2 k c2) es' [E] hoE (unhide hel) 0 (w2.heap.size + 2) (some ⟨w2.heap.size + 1, 0, none⟩) 1 1
                (Sl.one (rd_new_whole _ _ _ _ _ _ (by simp) (Ent.arr_size _).symm) (Nat.zero_le _) (by omega)) rfl (by omega) (by simp; omega) 27
              have hblk : w4.heap[B5]? = some (.cells #[.int .i64 V30, .int .i64 k8, .slice A2 k c2] 47 (0, 0)) := by
                refine (hg4.block B5 (by simp; omega) (fun e => ?_)).trans ((Below.heap_alloc _ _ _ (by simp; omega)).trans ((Below.heap_alloc _ _ _ hB52).trans hfb2))
                have := (ho.lt B5 e.symm).1
                omega
              refine ⟨A3, c3, w4, hrun, by simp [World.cell?, hblk], by simp [World.frozen?, hblk], ?_, ?_, ho4.setCell (by show B5 < B5 + 1; omega) _, hc4⟩
              · refine Below.setCell (below_grown ((hbw2.alloc (by omega) _).alloc (by simp; omega) _) hg4 (by simp; omega) (fun g e => by have := (ho.lt g e).1; omega)) (Nat.le_refl _) _
              · simp [World.setCell, Array.getElem?_modify, hblk]
            rcases Classical.em (Cnt G) with hC | hC
            · have hs30 := Int.emod_nonneg G.s (b := 30) (by omega)
              have hs31 := Int.emod_lt_of_pos G.s (b := 30) (by omega)
              have htm : G.s.tmod 30 = G.s % 30 := Int.tmod_eq_emod_of_nonneg hG0
              rcases hC with h1 | h1
              · have hOE := hide (show OkS { k := 1, l := G.l.tmod 8, s := 1 + G.s % 30, d := G.d } from fun _ => by show 1 ≤ 1 + G.s % 30; omega)
                obtain ⟨A3, c3, w4, hrun, q1, q2, q3, q4, q5, q6⟩ := happ { k := 1, l := G.l.tmod 8, s := 1 + G.s % 30, d := G.d }
                replace q3 := hide q3; replace q4 := hide q4; replace q5 := hide q5
                clear happ ho hb2 hb
                go_wp2_with (at_builtin; refine wpList_step (fun K hK => step_append_ex (o := ⟨some 78, _, _, _, _, _⟩) (.tmp 75) (.tmp 77) 27 rfl (by rfl) ?_); (with_reducible refine app_ex hrun ?_ (hK _ _ ?_)); rfl)
                go_roundw
                case rel => exact ⟨k + 1, A3, c3, es' ++ [{ k := 1, l := G.l.tmod 8, s := 1 + G.s % 30, d := G.d }], by omega, by omega, by go_num, by rw [List.length_append, unhide hel]; rfl, fun e he => by
                  rcases List.mem_append.1 he with h | h
                  · exact hes e h
                  · rw [List.mem_singleton.1 h]; exact unhide hOE, unhide q3, unhide q4, q6, unhide q5⟩
                case measure => simp [intOf]; omega
              · have hOE := hide (show OkS { k := 2, l := G.l.tmod 8, s := 1 + G.s % 30, d := G.d } from fun _ => by show 1 ≤ 1 + G.s % 30; omega)
                obtain ⟨A3, c3, w4, hrun, q1, q2, q3, q4, q5, q6⟩ := happ { k := 2, l := G.l.tmod 8, s := 1 + G.s % 30, d := G.d }
                replace q3 := hide q3; replace q4 := hide q4; replace q5 := hide q5
                clear happ ho hb2 hb
                go_wp2_with (at_builtin; refine wpList_step (fun K hK => step_append_ex (o := ⟨some 78, _, _, _, _, _⟩) (.tmp 75) (.tmp 77) 27 rfl (by rfl) ?_); (with_reducible refine app_ex hrun ?_ (hK _ _ ?_)); rfl)
                go_roundw
                case rel => exact ⟨k + 1, A3, c3, es' ++ [{ k := 2, l := G.l.tmod 8, s := 1 + G.s % 30, d := G.d }], by omega, by omega, by go_num, by rw [List.length_append, unhide hel]; rfl, fun e he => by
                  rcases List.mem_append.1 he with h | h
                  · exact hes e h
                  · rw [List.mem_singleton.1 h]; exact unhide hOE, unhide q3, unhide q4, q6, unhide q5⟩
                case measure => simp [intOf]; omega
            · have h1 : ¬ G.k = 1 := fun h => hC (.inl h)
              have h2 : ¬ G.k = 2 := fun h => hC (.inr h)
              have hOE := hide (show OkS G from fun h => absurd h hC)
              obtain ⟨A3, c3, w4, hrun, q1, q2, q3, q4, q5, q6⟩ := happ G
              replace q3 := hide q3; replace q4 := hide q4; replace q5 := hide q5
              clear happ ho hb2 hb
              go_wp2_with (at_builtin; refine wpList_step (fun K hK => step_append_ex (o := ⟨some 78, _, _, _, _, _⟩) (.tmp 75) (.tmp 77) 27 rfl (by rfl) ?_); (with_reducible refine app_ex hrun ?_ (hK _ _ ?_)); rfl)
              go_roundw
              case rel => exact ⟨k + 1, A3, c3, es' ++ [G], by omega, by omega, by go_num, by rw [List.length_append, unhide hel]; rfl, fun e he => by
                rcases List.mem_append.1 he with h | h
                · exact hes e h
                · rw [List.mem_singleton.1 h]; exact unhide hOE, unhide q3, unhide q4, q6, unhide q5⟩
              case measure => simp [intOf]; omega
          · have hIr := hI.below (by rw [← unhide hB5]; exact hb)
            have c0r := (hb.cell (p := ⟨b, o + i * 4, none⟩) hbB).trans c0
            have f0 : wr.cell? ⟨B5, 0, none⟩ = some (.int .i64 V30) := by simp [World.cell?, unhide hfb]
            have f1 : wr.cell? ⟨B5, 1, none⟩ = some (.int .i64 k8) := by simp [World.cell?, unhide hfb]
            have hkS : k5 < S.length := by rw [hIr.len]; omega
            obtain ⟨s, hs5⟩ : ∃ s, s = S[k5] := ⟨_, rfl⟩
            have g0 : wr.cell? ⟨BO, k5 * 2, none⟩ = some (.int .i64 s.st) := by
              have := hIr.arr.cell (k := k5) (m := 0) (by simpa using hkS) (by omega)
              simp only [List.getElem_map, ← hs5] at this
              exact this
            have g1 : wr.cell? ⟨BO, k5 * 2 + 1, none⟩ = some (.slice s.A s.rs.length s.c) := by
              have := hIr.arr.cell (k := k5) (m := 1) (by simpa using hkS) (by omega)
              simp only [List.getElem_map, ← hs5] at this
              exact this
            have g0f : wr.frozen? ⟨BO, k5 * 2, none⟩ = false := hIr.arr.frozen _
            have g1f : wr.frozen? ⟨BO, k5 * 2 + 1, none⟩ = false := hIr.arr.frozen _
            have hBOl := hIr.arr.lt
            have n5 : B5 ≠ BO := blk_ne (unhide hfb) hIr.arr.hp (by decide)
            have hBO' : w.heap.size ≤ BO := by rw [unhide hBO]; exact Nat.le_refl _
            have hrow : RowOk wr w.heap.size ⟨V30, k8, A2, c2, es'⟩ := ⟨by show es'.length ≤ 6; rw [unhide hel]; exact hk6, hes, by
              show Ow wr w.heap.size _ _ (.slice A2 es'.length c2) _
              rw [unhide hel]
              exact ho.less (by rw [unhide hB5]; omega)⟩
            have hrarr : RowD.arr ⟨V30, k8, A2, c2, es'⟩ = #[.int .i64 V30, .int .i64 k8, .slice A2 k c2] := by unfold RowD.arr; rw [unhide hel]
            obtain ⟨W1, hW1⟩ : ∃ W1, W1 = (wr.setCell ⟨BO, k5 * 2, none⟩ (.int .i64 1)).drew := ⟨_, rfl⟩
            have h1j : ∀ j : Nat, W1.heap[j]? = (wr.setCell ⟨BO, k5 * 2, none⟩ (.int .i64 1)).heap[j]? := fun j => by rw [hW1]; rfl
            have z1 : W1.heap.size = wr.heap.size := by rw [hW1]; simp [World.setCell]
            have hb1 : Below w.heap.size w W1 := by rw [hW1]; exact (hIr.b.setCell hBO' _).drew
            have hok5 := hIr.ok s (by rw [hs5]; exact List.getElem_mem hkS)
            have ho1 : Ow W1 w.heap.size 47 3 (.slice s.A s.rs.length s.c) (s.rs.map RowD.arr) := hok5.2.1.mv (fun g hg => by
              obtain ⟨cs, hcs⟩ := hok5.2.1.tag hg
              exact (h1j g).trans (Below.heap_setCell _ _ _ _ (blk_ne hcs hIr.arr.hp (by decide))))
            obtain ⟨A4, c4, w4, hrun, ho4, hg4, hc4, how4⟩ := run_append_row (W1.alloc (.cells #[.int .i64 V30, .int .i64 k8, .slice A2 k c2] 47)) w.heap.size s.rs.length (.slice s.A s.rs.length s.c) s.rs ⟨V30, k8, A2, c2, es'⟩ W1.heap.size (ho1.alloc _) rfl (by rw [hrarr]; exact heap_alloc_new _ _) (by have := hok5.1; omega) (by rw [World.size_alloc, z1]; have := hIr.b.size; omega) 41
            have hpush : MkI w BO (i + 1) (S.set k5 ⟨1, A4, c4, s.rs ++ [⟨V30, k8, A2, c2, es'⟩]⟩) (w4.setCell ⟨BO, k5 * 2 + 1, none⟩ (.slice A4 (s.rs.length + 1) c4)) := by
              have := hIr.push hBO' k5 hkS ⟨V30, k8, A2, c2, es'⟩ hrow (W1.alloc (.cells #[.int .i64 V30, .int .i64 k8, .slice A2 k c2] 47)) w4 A4 c4 (by rw [World.size_alloc, z1]; omega) (fun j hj => (Below.heap_alloc _ _ _ (by rw [z1]; exact hj)).trans (h1j j)) (hb1.alloc hb1.size _)
                (by rw [← hs5]; exact ho4) (by rw [← hs5]; exact hg4) (by rw [← hs5]; exact how4)
              rw [← hs5] at this
              exact this
            have o4 : w4.heap[BO]? = W1.heap[BO]? := (hg4.block BO (by rw [World.size_alloc, z1]; omega) (fun e => by
              obtain ⟨cs, hcs⟩ := hok5.2.1.tag e.symm
              exact blk_ne hcs hIr.arr.hp (by decide) rfl)).trans (Below.heap_alloc _ _ _ (by rw [z1]; exact hBOl))
            have g4c : w4.cell? ⟨BO, k5 * 2 + 1, none⟩ = some (.slice s.A s.rs.length s.c) := by
              refine (World.cell?_of_block (a := ⟨BO, k5 * 2 + 1, none⟩) (o4.trans (h1j BO))).trans ?_
              go_simp
            have g4f : w4.frozen? ⟨BO, k5 * 2 + 1, none⟩ = false := by
              refine (World.frozen?_of_block (a := ⟨BO, k5 * 2 + 1, none⟩) (o4.trans (h1j BO))).trans ?_
              rw [World.frozen?_setCell]
              exact g1f
            have keepS2 : ∀ X : World, (∀ j, j < W1.heap.size → X.heap[j]? = W1.heap[j]?) → X.cell? ⟨BO, k5 * 2 + 1, none⟩ = some (.slice s.A s.rs.length s.c) ∧ X.cell? ⟨B5, 0, none⟩ = some (.int .i64 V30) ∧ X.cell? ⟨B5, 1, none⟩ = some (.int .i64 k8) ∧ X.cell? ⟨B5, 2, none⟩ = some (.slice A2 k c2) := fun X hX => by
              have hB5' : X.heap[B5]? = wr.heap[B5]? := (hX B5 (by rw [z1]; exact hB5l)).trans ((h1j B5).trans (Below.heap_setCell _ _ _ _ n5))
              refine ⟨(World.cell?_of_block (a := ⟨BO, k5 * 2 + 1, none⟩) ((hX BO (by rw [z1]; exact hBOl)).trans (h1j BO))).trans (by go_simp), (World.cell?_of_block (a := ⟨B5, 0, none⟩) hB5').trans f0, (World.cell?_of_block (a := ⟨B5, 1, none⟩) hB5').trans f1, (World.cell?_of_block (a := ⟨B5, 2, none⟩) hB5').trans f2⟩
            have keep0 := keepS2 W1 (fun j _ => rfl)
            replace hpush := hide hpush
            replace z1 := hide z1
            replace hs5 := hide hs5
            replace hrarr := hide hrarr
            clear ho4 how4 ho1 hok5 hrow hIr hg4 o4 h1j hb1
            have hk5I : (0 : Int) ≤ k5 := by omega
            by_cases hq : k < r.es.length
            all_goals
              first
                | (have hqI : (k : Int) < r.es.length := by omega)
                | (have hqI : ¬ (k : Int) < r.es.length := by omega)
              try (have hq6 : ¬ (k : Int) < 6 := by omega)
              go_wp2_with fail
              refine (hw5 _).mono ?_
              rintro e wq ⟨rfl, rfl⟩
              go_wp2_with fail
              -- REGION15{
              refine start_ (n := 13) (S := fun w' => w'.cell? ⟨BO, k5 * 2 + 1, none⟩ = some (.slice s.A s.rs.length s.c) ∧ w'.cell? ⟨B5, 0, none⟩ = some (.int .i64 V30) ∧ w'.cell? ⟨B5, 1, none⟩ = some (.int .i64 k8) ∧ w'.cell? ⟨B5, 2, none⟩ = some (.slice A2 k c2)) (ds := [9, 12]) #[false, false, false, false, false, false, false, false, false, false, false, false, false] (by kernel_rfl) rfl rfl (by rw [← hW1]; exact keep0) (fun hHeld => ?_)
              clear hHeld
              rw [← hW1]
              replace hW1 := hide hW1
              have hHeld := keep0
              refine pure_ (i := 0) (N := some 90) (v := ?_) (a' := ?_) #[true, false, false, false, false, false, false, false, false, false, false, false, false] rfl rfl (by kernel_rfl) (fun _ _ _ h => h) (Or.inl ⟨by rfl, ?_⟩) ?_ ?_
              rotate_left
              · intro w'
                go_simp
                with_reducible rfl
              rotate_left
              · simp only [Act.put, List.setIfInBounds_toArray, List.set_cons_zero, List.set_cons_succ, i64_w, i32_w]
                rfl
              refine pure_ (i := 1) (N := some 91) (v := ?_) (a' := ?_) #[true, true, false, false, false, false, false, false, false, false, false, false, false] rfl rfl (by kernel_rfl) (fun _ _ _ h => h) (Or.inl ⟨by rfl, ?_⟩) ?_ ?_
              rotate_left
              · intro w'
                go_simp
                with_reducible rfl
              rotate_left
              · simp only [Act.put, List.setIfInBounds_toArray, List.set_cons_zero, List.set_cons_succ, i64_w, i32_w]
                rfl
              refine pure_ (i := 2) (N := some 92) (v := ?_) (a' := ?_) #[true, true, true, false, false, false, false, false, false, false, false, false, false] rfl rfl (by kernel_rfl) (fun _ _ _ h => h) (Or.inl ⟨by rfl, ?_⟩) ?_ ?_
              rotate_left
              · intro w'
                go_simp
                with_reducible rfl
              rotate_left
              · simp only [Act.put, List.setIfInBounds_toArray, List.set_cons_zero, List.set_cons_succ, i64_w, i32_w]
                rfl
              refine pure_ (i := 3) (N := some 93) (v := ?_) (a' := ?_) #[true, true, true, true, false, false, false, false, false, false, false, false, false] rfl rfl (by kernel_rfl) (fun _ _ _ h => h) (Or.inl ⟨by rfl, ?_⟩) ?_ ?_
              rotate_left
              · intro w'
                go_simp
                with_reducible rfl
              rotate_left
              · simp only [Act.put, List.setIfInBounds_toArray, List.set_cons_zero, List.set_cons_succ, i64_w, i32_w]
                rfl
              refine pure_ (i := 4) (N := some 94) (v := ?_) (a' := ?_) #[true, true, true, true, true, false, false, false, false, false, false, false, false] rfl rfl (by kernel_rfl) (fun _ _ _ h => h) (Or.inl ⟨by rfl, ?_⟩) ?_ ?_
              rotate_left
              · intro w'
                go_simp
                with_reducible rfl
              rotate_left
              · simp only [Act.put, List.setIfInBounds_toArray, List.set_cons_zero, List.set_cons_succ, i64_w, i32_w]
                rfl
              refine pure_ (i := 5) (N := some 95) (v := ?_) (a' := ?_) #[true, true, true, true, true, true, false, false, false, false, false, false, false] rfl rfl (by kernel_rfl) (fun _ _ _ h => h) (Or.inl ⟨by rfl, ?_⟩) ?_ ?_
              rotate_left
              · intro w'
                go_simp
                with_reducible rfl
              rotate_left
              · simp only [Act.put, List.setIfInBounds_toArray, List.set_cons_zero, List.set_cons_succ, i64_w, i32_w]
                rfl
              refine take_ (i := 6) (N := some 96) (v := ?_) (a' := ?_) #[true, true, true, true, true, true, true, false, false, false, false, false, false] rfl rfl (by kernel_rfl) (fun _ _ _ h => h) (Or.inl ⟨by rfl, ?_⟩) hHeld ?_ ?_
              rotate_left
              · intro w' hs_; obtain ⟨s0, s1, s2, s3⟩ := hs_
                go_simp
                with_reducible rfl
              rotate_left
              · simp only [Act.put, List.setIfInBounds_toArray, List.set_cons_zero, List.set_cons_succ, i64_w, i32_w]
                rfl
              refine take_ (i := 7) (N := some 97) (v := ?_) (a' := ?_) #[true, true, true, true, true, true, true, true, false, false, false, false, false] rfl rfl (by kernel_rfl) (fun _ _ _ h => h) (Or.inl ⟨by rfl, ?_⟩) hHeld ?_ ?_
              rotate_left
              · intro w' hs_; obtain ⟨s0, s1, s2, s3⟩ := hs_
                go_simp
                with_reducible rfl
              rotate_left
              · simp only [Act.put, List.setIfInBounds_toArray, List.set_cons_zero, List.set_cons_succ, i64_w, i32_w]
                rfl
              refine one_ (i := 8) (N := some 98) #[true, true, true, true, true, true, true, true, true, false, false, false, false] rfl rfl (by kernel_rfl) (by decide) (fun K hK => ?_)
              go_simp
              refine hK.out _ _ (keepS2 _ (fun j hj => Below.heap_alloc _ _ _ hj)) (fun hHeld => ?_)
              clear hK K
              refine last_ (i := 9) (N := some 99) #[true, true, true, true, true, true, true, true, true, true, false, false, false] rfl rfl (by kernel_rfl) (by decide) (fun K hK => ?_)
              refine step_append_ex (.tmp 96) (.tmp 98) 41 rfl (by rfl) ?_
              (with_reducible refine app_ex hrun ?_ (hK.out _ _ ?_))
              · rfl
              clear hK K hHeld
              refine norm_ (a' := ?_) ?_ ?_
              rotate_left
              · show Act.put _ (some 99) _ = _
                simp only [Act.put, List.setIfInBounds_toArray, List.set_cons_zero, List.set_cons_succ, i64_w, i32_w]
                rfl
              refine pure_ (i := 10) (N := some 100) (v := ?_) (a' := ?_) #[true, true, true, true, true, true, true, true, true, true, true, false, false] rfl rfl (by kernel_rfl) (fun _ _ _ h => h) (Or.inl ⟨by rfl, ?_⟩) ?_ ?_
              rotate_left
              · intro w'
                go_simp
                with_reducible rfl
              rotate_left
              · simp only [Act.put, List.setIfInBounds_toArray, List.set_cons_zero, List.set_cons_succ, i64_w, i32_w]
                rfl
              refine pure_ (i := 11) (N := some 101) (v := ?_) (a' := ?_) #[true, true, true, true, true, true, true, true, true, true, true, true, false] rfl rfl (by kernel_rfl) (fun _ _ _ h => h) (Or.inl ⟨by rfl, ?_⟩) ?_ ?_
              rotate_left
              · intro w'
                go_simp
                with_reducible rfl
              rotate_left
              · simp only [Act.put, List.setIfInBounds_toArray, List.set_cons_zero, List.set_cons_succ, i64_w, i32_w]
                rfl
              refine last_ (i := 12) (N := none) #[true, true, true, true, true, true, true, true, true, true, true, true, true] rfl rfl (by kernel_rfl) (by decide) (fun K hK => ?_)
              refine skip_ (w1 := w4.setCell ⟨BO, k5 * 2 + 1, none⟩ (.slice A4 (s.rs.length + 1) c4)) (by rfl) rfl (by go_simp) ?_
              refine hK.out _ _ ?_
              clear hK K
              refine done_ (by kernel_rfl) ?_
              -- }REGION15
              simp only [Exit.inBlock, Exit.then]
              apply_assumption
              go_wp2_with fail
              go_roundw
              case rel => exact ⟨i + 1, _, by omega, by omega, by go_num, unhide hpush⟩
              case measure => simp [intOf]; omega
    · have hI12 : MkI w w.heap.size 12 S wr := by
        rw [← unhide hBO]
        exact ⟨hI.b, hI.len, hI.arr, fun s hs => ⟨by have := (hI.ok s hs).1; omega, (hI.ok s hs).2⟩, hI.apart⟩
      by_cases h1 : i < L.length
      · have h1I : (i : Int) < L.length := by omega
        have h2I : ¬ (i : Int) < 12 := by omega
        go_wp2_with fail
        go_ret
        exact ⟨by rw [← unhide hBO]; rfl, S, hI12⟩
      · have h1I : ¬ (i : Int) < L.length := by omega
        go_wp2_with fail
        go_ret
        exact ⟨by rw [← unhide hBO]; rfl, S, hI12⟩
end Go.Proofs.Ytnihgfhaenpfkaa.Base
