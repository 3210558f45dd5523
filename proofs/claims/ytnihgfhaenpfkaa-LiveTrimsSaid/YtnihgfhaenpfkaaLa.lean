/-
  The document's greatest numbers (ramekinref14.Last).
-/
import Derived.Test.YtnihgfhaenpfkaaOf
namespace Go.Proofs.Ytnihgfhaenpfkaa.Base
open Go.RowKit Go.Proofs.YtnihgfhaenpfkaaW.PrintWords Go.Proofs.YtnihgfhaenpfkaaW.PrintLast
set_option linter.unusedSimpArgs false
set_option linter.unusedVariables false
attribute [local go_sem] Ent.arr0 Ent.arr1 Ent.arr2 Ent.set1 Ent.set2 Ent.arr_size Ent.okW Ent.lit run_ldV_ent run_stV_ent ldR_some stR_true rd_new_whole rd_alloc canW_new canW_alloc wr_new wr_alloc rd_drew rd_drewN canW_drew canW_drewN run_bsS_ent run_bsS_ent0 run_eqI_ent rd_setCell rd_setCell_same canW_setCell' Option.map_some cell_wr_other rd_wr_same rd_wr_other
attribute [local go_sem ↓] ldV_ent stV_ent bsS_ent eqI_ent
attribute [local go_sem] Ent.arr0g Ent.arr1g Ent.arr2g run_ldV_dat rd_dat run_eqI_dat dat_lit
attribute [local go_sem ↓] ldV_dat eqI_dat
set_option maxRecDepth 100000 in
set_option maxHeartbeats 2000000 in
theorem counts_any (e : Ent) (w : World) : Calls Try.prog 16 #[.agg e.arr] w fun x w' => x = .returned (.bool (decide (Cnt e))) ∧ Below w.heap.size w w' := by
  rcases Classical.em (e.k = 1) with h1 | h1
  · have hc : decide (Cnt e) = true := decide_eq_true (.inl h1)
    rw [hc]
    go_enter Try.func16, Try.ntmps16
    go_wp2_with fail
    go_ret
    exact ⟨rfl, (Below.refl _ _).alloc (Nat.le_refl _) _⟩
  · rcases Classical.em (e.k = 2) with h2 | h2
    · have hc : decide (Cnt e) = true := decide_eq_true (.inr h2)
      rw [hc]
      go_enter Try.func16, Try.ntmps16
      go_wp2_with fail
      go_ret
      exact ⟨rfl, (Below.refl _ _).alloc (Nat.le_refl _) _⟩
    · have hc : decide (Cnt e) = false := decide_eq_false (fun h => h.elim h1 h2)
      rw [hc]
      go_enter Try.func16, Try.ntmps16
      go_wp2_with fail
      go_ret
      exact ⟨by simp [h1, h2], (Below.refl _ _).alloc (Nat.le_refl _) _⟩
theorem counts_b (e : Ent) (b : Bool) (hb : decide (Cnt e) = b) (w : World) : Calls Try.prog 16 #[.agg e.arr] w fun x w' => x = .returned (.bool b) ∧ Below w.heap.size w w' := by
  subst hb; exact counts_any e w
set_option maxRecDepth 100000 in
set_option maxHeartbeats 4000000 in
theorem rlast_any (A : Option Addr) (c : Nat) (T : List SupD) (w : World) (hsm : Small T) (hs : Sups w w.heap.size A T) :
    Calls Try.prog 11 #[.slice A T.length c] w fun x w' => (∃ seq ser : Int, x = .returned (.tuple #[.int .i64 seq, .int .i64 ser]) ∧ ∀ u ∈ ups T, u.e.s ≤ seq) ∧ Below w.heap.size w w' := by
  obtain ⟨hT1, hT2⟩ := hsm
  go_enter Try.func11, Try.ntmps11
  go_wp2_with fail
  go_loopw [4, 5, 6] (fun s4 s5 s6 wr => ∃ (i : Nat) (seq ser : Int), i ≤ T.length ∧ s4 = .int .i64 seq ∧ s5 = .int .i64 ser ∧ s6 = .int .i64 i ∧ (∀ u ∈ upT T i, u.e.s ≤ seq) ∧ Below w.heap.size w wr) (fun _ _ s6 _ => T.length - (intOf s6).toNat)
  case atStart => exact ⟨0, 0, 0, by omega, rfl, rfl, rfl, by simp [upT], Below.refl _ _⟩
  case round =>
    obtain ⟨i, seq, ser, hi, rfl, rfl, rfl, hq, hb⟩ := hrel
    have hz := hb.size
    by_cases hiT : i < T.length
    · have hiI : (i : Int) < T.length := by omega
      obtain ⟨b, o, rfl, _, hbl, hr⟩ := hs.1.at_ (k := i) (by simpa using hiT)
      simp only [List.getElem_map] at hr
      obtain ⟨s, hsT⟩ : ∃ s, s = T[i] := ⟨_, rfl⟩
      have hsg : T.getD i zS = s := by rw [getD_in hiT, hsT]
      have hsm1 := hT2 s (by rw [hsT]; exact List.getElem_mem hiT)
      have hss := hs.2 s (by rw [hsT]; exact List.getElem_mem hiT)
      rw [← hsT] at hr
      obtain ⟨A2, hA2⟩ : ∃ A2, A2 = s.A := ⟨_, rfl⟩
      have hr1 : w.cell? ⟨b, o + i * 2 + 1, none⟩ = some (.slice s.A s.rs.length s.c) := rd_cell hr 1 (by omega)
      rw [← hA2] at hss hr1
      clear hr hsT hA2
      replace hsg := hide hsg
      go_wp2_with fail
      go_loopw [4, 5, 7] (fun s4 s5 s7 wr => ∃ (j : Nat) (seq ser : Int), j ≤ s.rs.length ∧ s4 = .int .i64 seq ∧ s5 = .int .i64 ser ∧ s7 = .int .i64 j ∧ (∀ u ∈ upT T i ++ upR i s j, u.e.s ≤ seq) ∧ Below w.heap.size w wr) (fun _ _ s7 _ => s.rs.length - (intOf s7).toNat)
      case atStart => exact ⟨0, seq, ser, by omega, rfl, rfl, rfl, by rw [show upR i s 0 = [] from rfl, List.append_nil]; exact hq, hb⟩
      case round =>
        clear hq hb hz
        obtain ⟨j, seq, ser, hj, rfl, rfl, rfl, hq, hb⟩ := hrel
        have hz := hb.size
        have c1 := (hb.cell (p := ⟨b, o + i * 2 + 1, none⟩) hbl).trans hr1
        by_cases hjR : j < s.rs.length
        · have hjI : (j : Int) < s.rs.length := by omega
          obtain ⟨b2, o2, rfl, _, hbl2, hr⟩ := hss.1.at_ (k := j) (by simpa using hjR)
          simp only [List.getElem_map] at hr
          obtain ⟨r, hrT⟩ : ∃ r, r = s.rs[j] := ⟨_, rfl⟩
          have hrg : s.rs.getD j zR = r := by rw [getD_in hjR, hrT]
          have hsm2 := hsm1.2 r (by rw [hrT]; exact List.getElem_mem hjR)
          have hrr := hss.2 r (by rw [hrT]; exact List.getElem_mem hjR)
          rw [← hrT] at hr
          have hr2 := (rd_below hb hbl2 _ _).trans hr
          obtain ⟨A3, hA3⟩ : ∃ A3, A3 = r.A := ⟨_, rfl⟩
          have d0 : wr.cell? ⟨b2, o2 + j * 3, none⟩ = some (.int .i64 r.ser) := rd_cell hr2 0 (by omega)
          have d1 : wr.cell? ⟨b2, o2 + j * 3 + 1, none⟩ = some (.int .i64 r.at_) := rd_cell hr2 1 (by omega)
          have d2 : wr.cell? ⟨b2, o2 + j * 3 + 2, none⟩ = some (.slice r.A r.es.length r.c) := rd_cell hr2 2 (by omega)
          rw [← hA3] at d2 hrr
          clear hr hr2 hrT hA3
          replace hrg := hide hrg
          obtain ⟨B8, hB8⟩ : ∃ B8, B8 = wr.heap.size := ⟨_, rfl⟩
          have hb8 : (wr.alloc (Obj.cells #[.int .i64 r.ser, .int .i64 r.at_, .slice A3 r.es.length r.c] 47)).heap[B8]? = some (.cells #[.int .i64 r.ser, .int .i64 r.at_, .slice A3 r.es.length r.c] 47 (0, 0)) := by rw [hB8]; exact heap_alloc_new _ _
          have hbw : Below w.heap.size w (wr.alloc (Obj.cells #[.int .i64 r.ser, .int .i64 r.at_, .slice A3 r.es.length r.c] 47)) := hb.alloc hz _
          have hB8w : w.heap.size ≤ B8 := by omega
          replace hB8 := hide hB8
          go_wp2_with fail
          all_goals
            rw [← unhide hB8]
            clear d0 d1 d2 c1
            go_loopw [4, 9] (fun s4 s9 wr => ∃ (k : Nat) (seq : Int), k ≤ r.es.length ∧ s4 = .int .i64 seq ∧ s9 = .int .i64 k ∧ (∀ u ∈ upT T i ++ (upR i s j ++ upS i r k), u.e.s ≤ seq) ∧ Below w.heap.size w wr ∧ wr.heap[B8]? = some (.cells #[.int .i64 r.ser, .int .i64 r.at_, .slice A3 r.es.length r.c] 47 (0, 0))) (fun _ s9 _ => r.es.length - (intOf s9).toNat)
            case atStart => exact ⟨0, seq, by omega, rfl, rfl, by rw [show upS i r 0 = [] from rfl, List.append_nil]; exact hq, hbw, hb8⟩
            case round =>
              clear hq hb hbw hb8 hz hB8
              obtain ⟨k, seq, hk, rfl, rfl, hq, hb, hbx⟩ := hrel
              have hz := hb.size
              have f2 : wr.cell? ⟨B8, 2, none⟩ = some (.slice A3 r.es.length r.c) := by simp [World.cell?, hbx]
              have hbl8 : B8 < wr.heap.size := (Array.getElem?_eq_some_iff.1 hbx).1
              replace hbx := hide hbx
              by_cases hkE : k < r.es.length
              · have hkI : (k : Int) < r.es.length := by omega
                obtain ⟨b3, o3, rfl, _, hbl3, hr⟩ := hrr.at_ (k := k) (by simpa using hkE)
                simp only [List.getElem_map] at hr
                obtain ⟨X, hX⟩ : ∃ X, X = r.es[k] := ⟨_, rfl⟩
                have hXg := hide (show r.es.getD k Ent.zero = X by rw [getD_in hkE, hX])
                rw [← hX] at hr
                have hr3 := (rd_below hb hbl3 _ _).trans hr
                have hcX : w.cell? ⟨b3, o3 + k * 19 + 2, none⟩ = some (.int .i64 X.s) := rd_cell hr 2 (by omega)
                clear hr hX
                rcases Classical.em (Cnt X) with hC | hC
                · have hcb := fun w => counts_b X true (decide_eq_true hC) w
                  have hsuc := hide (show upS i r (k + 1) = upS i r k ++ [⟨X, ⟨i, r.at_, k⟩, r.ser⟩] by rw [upS_succ]; unfold up1; rw [unhide hXg, if_pos hC])
                  go_wp2_with fail
                  refine (hcb _).mono ?_
                  rintro e w2 ⟨rfl, hb2⟩
                  have f2b := (hb2.cell (p := ⟨B8, 2, none⟩) hbl8).trans f2
                  have hcX2 := ((hb.trans (hb2.mono hz)).cell (p := ⟨b3, o3 + k * 19 + 2, none⟩) hbl3).trans hcX
                  clear f2 hr3
                  go_wp2_with fail
                  all_goals
                    go_roundw
                    case rel => exact ⟨k + 1, _, by omega, rfl, by go_num, by
                      rw [unhide hsuc]
                      intro u hu
                      rcases List.mem_append.1 hu with h | h
                      · have := hq u (List.mem_append_left _ h); omega
                      · rcases List.mem_append.1 h with h | h
                        · have := hq u (List.mem_append_right _ (List.mem_append_left _ h)); omega
                        · rcases List.mem_append.1 h with h | h
                          · have := hq u (List.mem_append_right _ (List.mem_append_right _ h)); omega
                          · rw [List.mem_singleton.1 h]; show X.s ≤ _; omega, hb.trans (hb2.mono hz), (hb2.block _ hbl8).trans (unhide hbx)⟩
                    case measure => simp [intOf]; omega
                · have hcb := fun w => counts_b X false (decide_eq_false hC) w
                  have hsuc := hide (show upS i r (k + 1) = upS i r k by rw [upS_succ]; unfold up1; rw [unhide hXg, if_neg hC, List.append_nil])
                  go_wp2_with fail
                  refine (hcb _).mono ?_
                  rintro e w2 ⟨rfl, hb2⟩
                  clear f2 hr3
                  go_wp2_with fail
                  go_roundw
                  case rel => exact ⟨k + 1, _, by omega, rfl, by go_num, by rw [unhide hsuc]; exact hq, hb.trans (hb2.mono hz), (hb2.block _ hbl8).trans (unhide hbx)⟩
                  case measure => simp [intOf]; omega
              · obtain rfl : k = r.es.length := by omega
                go_wp2_with fail
                go_roundw
                case rel => exact ⟨j + 1, seq, _, by omega, rfl, rfl, by go_num, by rw [upR_succ, unhide hrg]; exact hq, hb⟩
                case measure => simp [intOf]; omega
        · obtain rfl : j = s.rs.length := by omega
          go_wp2_with fail
          go_roundw
          case rel => exact ⟨i + 1, seq, ser, by omega, rfl, rfl, by go_num, by rw [upT_succ, unhide hsg]; exact hq, hb⟩
          case measure => simp [intOf]; omega
    · obtain rfl : i = T.length := by omega
      go_wp2_with fail
      refine bodyPost_ret (results_tmp2 rfl _ _ _) rfl ?_
      exact ⟨⟨seq, ser, rfl, hq⟩, hb⟩
end Go.Proofs.Ytnihgfhaenpfkaa.Base
