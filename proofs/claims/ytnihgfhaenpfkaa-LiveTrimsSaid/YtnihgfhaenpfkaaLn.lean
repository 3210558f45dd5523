/-
  All updates in order, where what comes is put into a row that grows.
-/
import Derived.Test.YtnihgfhaenpfkaaLm
import Derived.Test.YtnihgfhaenpfkaaRng
import Derived.Test.YtnihgfhaenpfkaaIr
import Derived.StillTailTactics
import Derived.RegionIn
import Derived.Stop.RegionWithIn
namespace Go.Proofs.Ytnihgfhaenpfkaa.Base
open Go.RowKit Go.Proofs.YtnihgfhaenpfkaaW.PrintWords Go.Proofs.YtnihgfhaenpfkaaW.PrintLast
set_option linter.unusedSimpArgs false
set_option linter.unusedVariables false
attribute [local go_sem] Ent.arr0 Ent.arr1 Ent.arr2 Ent.set1 Ent.set2 Ent.arr_size Ent.okW Ent.lit run_ldV_ent run_stV_ent ldR_some stR_true rd_new_whole rd_alloc canW_new canW_alloc wr_new wr_alloc rd_drew rd_drewN canW_drew canW_drewN run_bsS_ent run_bsS_ent0 run_eqI_ent rd_setCell rd_setCell_same canW_setCell' Option.map_some cell_wr_other rd_wr_same rd_wr_other
attribute [local go_sem ↓] ldV_ent stV_ent bsS_ent eqI_ent
attribute [local go_sem] Ent.arr0g Ent.arr1g Ent.arr2g run_ldV_dat rd_dat run_eqI_dat dat_lit
attribute [local go_sem ↓] ldV_dat eqI_dat
attribute [local go_sem] wide_fn' wide_depth' Oper.semAt_some run_bdH
attribute [local go_sem ↓] build_had
structure KpQ (own : Nat → TypeId → Prop) (A B : World) : Prop where
  size : A.heap.size ≤ B.heap.size
  same : ∀ (k : Nat) (cs : Array Value) (t : TypeId) (fr : Nat × Nat), A.heap[k]? = some (.cells cs t fr) → ¬ own k t → B.heap[k]? = some (.cells cs t fr)
theorem KpQ.refl (own : Nat → TypeId → Prop) (A : World) : KpQ own A A := ⟨Nat.le_refl _, fun _ _ _ _ h _ => h⟩
theorem KpQ.trans {own : Nat → TypeId → Prop} {A B C : World} (h : KpQ own A B) (k : KpQ own B C) : KpQ own A C :=
  ⟨Nat.le_trans h.size k.size, fun j cs t fr hj hn => k.same j cs t fr (h.same j cs t fr hj hn) hn⟩
theorem KpQ.of_below {own : Nat → TypeId → Prop} {A B : World} (h : Below A.heap.size A B) : KpQ own A B :=
  ⟨h.size, fun k cs t fr hk _ => (h.block k (Array.getElem?_eq_some_iff.1 hk).1).trans hk⟩
theorem KpQ.rd {own : Nat → TypeId → Prop} {A B : World} (h : KpQ own A B) {b o n : Nat} {cs : Array Value} (hr : rd A b o n = some cs) (hn : ∀ t, ¬ own b t) : Base.rd B b o n = some cs := by
  unfold Base.rd at hr ⊢
  cases hb : A.heap[b]? with
  | none => rw [hb] at hr; cases hr
  | some x =>
    rw [hb] at hr
    cases x with
    | cells c e fr => rw [h.same b _ _ _ hb (hn e)]; exact hr
    | _ => cases hr
set_option maxRecDepth 100000 in
set_option maxHeartbeats 2000000 in
theorem all_q (own : Nat → TypeId → Prop) (Bl m₀ n₀ : Nat) (A : Option Addr) (c : Nat) (T : List SupD) (hBl : Bl < n₀) (hm₀ : m₀ ≤ n₀) (ho1 : ∀ k t, own k t → m₀ ≤ k ∧ (k < n₀ ∨ t = 3)) (hsm : Small T) (w : World)
    (fl : w.heap[Bl]? = some (.cells #[.slice A T.length c] 25 (0, 0))) (hs : Sups w m₀ A T) (h0 : n₀ ≤ w.heap.size) :
    IterC Try.prog 19 #[.pointer (some ⟨Bl, 0, none⟩)] (fun u : U => #[.agg u.arr]) (fun A B => Below A.heap.size A B) (KpQ own)
      (fun xs => xs = ups T) (fun pre => pre <+: ups T) (ups T).length w := by
  intro l J Jx W hbW hJ hJx hY hJ0
  refine callsIn_of_wp Try.func19 rfl trivial ?_ rfl
  simp only [Try.ntmps19, List.size_toArray, List.length_cons, List.length_nil, Nat.reduceAdd, Nat.reduceSub, Array.replicate_succ, Array.replicate_zero, List.push_toArray, List.append_toArray, List.nil_append, List.cons_append]
  have hbW0 : Below n₀ w W := hbW.mono h0
  have hWz : n₀ ≤ W.heap.size := Nat.le_trans h0 hbW.size
  have fW := (hbW0.block Bl hBl).trans fl
  have fWc : W.cell? ⟨Bl, 0, none⟩ = some (.slice A T.length c) := by simp [World.cell?, fW]
  have hsW : Sups W m₀ A T := hs.below (hbW0.mono hm₀)
  have hnm : ∀ k, k < m₀ → ∀ t, ¬ own k t := fun k hk t ho => by have := (ho1 k t ho).1; omega
  have hnn : ∀ k, n₀ ≤ k → ¬ own k 47 := fun k hk ho => by
    rcases (ho1 k _ ho).2 with h | h
    · omega
    · exact absurd h (by decide)
  obtain ⟨hT1, hT2⟩ := hsm
  replace fW := hide fW
  replace fl := hide fl
  clear hs
  gi_wp2
  gi_loopw [11] (fun s11 wr => ∃ i : Nat, i ≤ T.length ∧ s11 = .int .i64 i ∧ J (upT T i) wr ∧ KpQ own W wr) (fun s11 _ => T.length - (intOf s11).toNat)
  case atStart => exact ⟨0, by omega, rfl, hJ0, KpQ.refl _ _⟩
  case round =>
    obtain ⟨i, hi, rfl, hJp, hk⟩ := hrel
    have hz := hk.size
    by_cases hiT : i < T.length
    · have hiI : (i : Int) < T.length := by omega
      obtain ⟨b, o, rfl, _, hbl, hr⟩ := hsW.1.at_ (k := i) (by simpa using hiT)
      simp only [List.getElem_map] at hr
      obtain ⟨s, hsT⟩ : ∃ s, s = T[i] := ⟨_, rfl⟩
      have hsg : T.getD i zS = s := by rw [getD_in hiT, hsT]
      have hsm1 := hT2 s (by rw [hsT]; exact List.getElem_mem hiT)
      have hss := hsW.2 s (by rw [hsT]; exact List.getElem_mem hiT)
      rw [← hsT] at hr
      have hr2 := hk.rd hr (hnm b hbl)
      have c0 : wr.cell? ⟨b, o + i * 2, none⟩ = some (.int .i64 s.st) := rd_cell hr2 0 (by omega)
      have c1 : wr.cell? ⟨b, o + i * 2 + 1, none⟩ = some (.slice s.A s.rs.length s.c) := rd_cell hr2 1 (by omega)
      clear hr hr2 hsT
      replace hsg := hide hsg
      obtain ⟨A2, hA2⟩ : ∃ A2, A2 = s.A := ⟨_, rfl⟩
      rw [← hA2] at c1 hss
      clear hA2
      gi_wp2
      have hJ1 := hJ _ _ _ ((Below.refl wr.heap.size wr).alloc (Nat.le_refl _) (Obj.cells #[.int .i64 s.st, .slice A2 s.rs.length s.c] 43)) hJp
      have hk1 : KpQ own W (wr.alloc (Obj.cells #[.int .i64 s.st, .slice A2 s.rs.length s.c] 43)) := hk.trans (KpQ.of_below ((Below.refl wr.heap.size wr).alloc (Nat.le_refl _) _))
      clear c0 c1
      gi_loopw [19] (fun s19 wr => ∃ j : Nat, j ≤ s.rs.length ∧ s19 = .int .i64 j ∧ J (upT T i ++ upR i s j) wr ∧ KpQ own W wr) (fun s19 _ => s.rs.length - (intOf s19).toNat)
      case atStart => exact ⟨0, by omega, rfl, by rw [show upR i s 0 = [] from rfl, List.append_nil]; exact hJ1, hk1⟩
      case round =>
        clear hJ1 hk1
        obtain ⟨j, hj, rfl, hJq, hkq⟩ := hrel
        have hzq := hkq.size
        by_cases hjR : j < s.rs.length
        · have hjI : (j : Int) < s.rs.length := by omega
          obtain ⟨b2, o2, rfl, _, hbl2, hr⟩ := hss.1.at_ (k := j) (by simpa using hjR)
          simp only [List.getElem_map] at hr
          obtain ⟨r, hrT⟩ : ∃ r, r = s.rs[j] := ⟨_, rfl⟩
          have hrg : s.rs.getD j zR = r := by rw [getD_in hjR, hrT]
          have hsm2 := hsm1.2 r (by rw [hrT]; exact List.getElem_mem hjR)
          have hrr := hss.2 r (by rw [hrT]; exact List.getElem_mem hjR)
          rw [← hrT] at hr
          have hr2 := hkq.rd hr (hnm b2 hbl2)
          obtain ⟨A3, hA3⟩ : ∃ A3, A3 = r.A := ⟨_, rfl⟩
          have c0 : wr.cell? ⟨b2, o2 + j * 3, none⟩ = some (.int .i64 r.ser) := rd_cell hr2 0 (by omega)
          have c1 : wr.cell? ⟨b2, o2 + j * 3 + 1, none⟩ = some (.int .i64 r.at_) := rd_cell hr2 1 (by omega)
          have c2 : wr.cell? ⟨b2, o2 + j * 3 + 2, none⟩ = some (.slice r.A r.es.length r.c) := rd_cell hr2 2 (by omega)
          rw [← hA3] at c2 hrr
          clear hA3
          clear hr hr2 hrT
          replace hrg := hide hrg
          gi_wp2
          obtain ⟨B6, hB6⟩ : ∃ B6, B6 = wr.heap.size := ⟨_, rfl⟩
          have hB6n : ¬ own B6 47 := hnn _ (by rw [hB6]; omega)
          have hJ2 := hJ _ _ _ ((Below.refl wr.heap.size wr).alloc (Nat.le_refl _) (Obj.cells #[.int .i64 r.ser, .int .i64 r.at_, .slice A3 r.es.length r.c] 47)) hJq
          have hk2 : KpQ own W (wr.alloc (Obj.cells #[.int .i64 r.ser, .int .i64 r.at_, .slice A3 r.es.length r.c] 47)) := hkq.trans (KpQ.of_below ((Below.refl wr.heap.size wr).alloc (Nat.le_refl _) _))
          have hb6 : (wr.alloc (Obj.cells #[.int .i64 r.ser, .int .i64 r.at_, .slice A3 r.es.length r.c] 47)).heap[B6]? = some (.cells #[.int .i64 r.ser, .int .i64 r.at_, .slice A3 r.es.length r.c] 47 (0, 0)) := by rw [hB6]; exact heap_alloc_new _ _
          rw [← hB6]
          clear c0 c1 c2 hB6
          gi_loopw [26] (fun s26 wr => ∃ k : Nat, k ≤ r.es.length ∧ s26 = .int .i64 k ∧ J (upT T i ++ (upR i s j ++ upS i r k)) wr ∧ KpQ own W wr ∧ wr.heap[B6]? = some (.cells #[.int .i64 r.ser, .int .i64 r.at_, .slice A3 r.es.length r.c] 47 (0, 0))) (fun s26 _ => r.es.length - (intOf s26).toNat)
          case atStart => exact ⟨0, by omega, rfl, by rw [show upS i r 0 = [] from rfl, List.append_nil]; exact hJ2, hk2, hb6⟩
          case round =>
            clear hJ2 hk2 hb6
            obtain ⟨k, hkk, rfl, hJr, hkr, hB6c⟩ := hrel
            have hzr := hkr.size
            have f0 : wr.cell? ⟨B6, 0, none⟩ = some (.int .i64 r.ser) := by simp [World.cell?, hB6c]
            have f1 : wr.cell? ⟨B6, 1, none⟩ = some (.int .i64 r.at_) := by simp [World.cell?, hB6c]
            have hB6l : B6 < wr.heap.size := (Array.getElem?_eq_some_iff.1 hB6c).1
            replace hB6c := hide hB6c
            by_cases hkE : k < r.es.length
            · have hkI : (k : Int) < r.es.length := by omega
              obtain ⟨b3, o3, rfl, _, hbl3, hr⟩ := hrr.at_ (k := k) (by simpa using hkE)
              simp only [List.getElem_map] at hr
              obtain ⟨X, hX⟩ : ∃ X, X = r.es[k] := ⟨_, rfl⟩
              have hXg := hide (show r.es.getD k Ent.zero = X by rw [getD_in hkE, hX])
              rw [← hX] at hr
              have hr3 := hkr.rd hr (hnm b3 hbl3)
              have hb3l : b3 < wr.heap.size := by omega
              clear hr hX
              rcases Classical.em (X.k = 1) with hXk' | hX1
              · have hXk : X.k = 1 := hXk'
                have hcnt : Cnt X := by unfold Cnt; omega
                have hsuc : upS i r (k + 1) = upS i r k ++ [⟨X, ⟨i, r.at_, k⟩, r.ser⟩] := by rw [upS_succ]; unfold up1; rw [unhide hXg, if_pos hcnt]
                have hpre := ups_pre T hiT (by rw [unhide hsg]; exact hjR) (k := k + 1) (by rw [unhide hsg, unhide hrg]; omega)
                rw [unhide hsg, unhide hrg, hsuc, ← List.append_assoc (upR i s j), ← List.append_assoc (upT T i)] at hpre
                have hlen : (upT T i ++ (upR i s j ++ upS i r k)).length < (ups T).length := by
                  have := hpre.length_le
                  simp only [List.length_append, List.length_singleton] at this ⊢
                  omega
                obtain ⟨fn1, tmps, assign, body, hy, hR⟩ := hY (upT T i ++ (upR i s j ++ upS i r k)) ⟨X, ⟨i, r.at_, k⟩, r.ser⟩ (wr.alloc (Obj.cells X.arr 37)) (hJ _ _ _ ((Below.refl _ _).alloc (Nat.le_refl _) _) hJr) hlen hpre
                have hpre' := hide hpre
                have hsuc' := hide hsuc
                clear hpre hsuc hcnt hlen
                gi_wp2
                refine hR.mono ?_
                rintro e W3 (⟨rfl, hJ3, hk3⟩ | ⟨rfl, hJx3⟩)
                · have hb3 : KpQ own wr W3 := (KpQ.of_below ((Below.refl wr.heap.size wr).alloc (Nat.le_refl _) (Obj.cells X.arr 37))).trans hk3
                  gi_wp2
                  go_roundw
                  case rel => exact ⟨k + 1, by omega, by go_num, by rw [unhide hsuc', ← List.append_assoc (upR i s j), ← List.append_assoc (upT T i)]; exact hJ3, hkr.trans hb3, hb3.same _ _ _ _ (unhide hB6c) hB6n⟩
                  case measure => simp [intOf]; omega
                · gi_wp2
                  refine bodyPost_ret (results_none rfl _ _ _) rfl ?_
                  exact ⟨⟨_, rfl⟩, .inr ⟨_, unhide hpre', hJx3⟩⟩
              rcases Classical.em (X.k = 2) with hXk' | hX2
              · have hXk : X.k = 2 := hXk'
                have hcnt : Cnt X := by unfold Cnt; omega
                have hsuc : upS i r (k + 1) = upS i r k ++ [⟨X, ⟨i, r.at_, k⟩, r.ser⟩] := by rw [upS_succ]; unfold up1; rw [unhide hXg, if_pos hcnt]
                have hpre := ups_pre T hiT (by rw [unhide hsg]; exact hjR) (k := k + 1) (by rw [unhide hsg, unhide hrg]; omega)
                rw [unhide hsg, unhide hrg, hsuc, ← List.append_assoc (upR i s j), ← List.append_assoc (upT T i)] at hpre
                have hlen : (upT T i ++ (upR i s j ++ upS i r k)).length < (ups T).length := by
                  have := hpre.length_le
                  simp only [List.length_append, List.length_singleton] at this ⊢
                  omega
                obtain ⟨fn1, tmps, assign, body, hy, hR⟩ := hY (upT T i ++ (upR i s j ++ upS i r k)) ⟨X, ⟨i, r.at_, k⟩, r.ser⟩ (wr.alloc (Obj.cells X.arr 37)) (hJ _ _ _ ((Below.refl _ _).alloc (Nat.le_refl _) _) hJr) hlen hpre
                have hpre' := hide hpre
                have hsuc' := hide hsuc
                clear hpre hsuc hcnt hlen
                gi_wp2
                refine hR.mono ?_
                rintro e W3 (⟨rfl, hJ3, hk3⟩ | ⟨rfl, hJx3⟩)
                · have hb3 : KpQ own wr W3 := (KpQ.of_below ((Below.refl wr.heap.size wr).alloc (Nat.le_refl _) (Obj.cells X.arr 37))).trans hk3
                  gi_wp2
                  go_roundw
                  case rel => exact ⟨k + 1, by omega, by go_num, by rw [unhide hsuc', ← List.append_assoc (upR i s j), ← List.append_assoc (upT T i)]; exact hJ3, hkr.trans hb3, hb3.same _ _ _ _ (unhide hB6c) hB6n⟩
                  case measure => simp [intOf]; omega
                · gi_wp2
                  refine bodyPost_ret (results_none rfl _ _ _) rfl ?_
                  exact ⟨⟨_, rfl⟩, .inr ⟨_, unhide hpre', hJx3⟩⟩
              have hcnt : ¬ Cnt X := by unfold Cnt; omega
              have hsuc := hide (show upS i r (k + 1) = upS i r k by rw [upS_succ]; unfold up1; rw [unhide hXg, if_neg hcnt, List.append_nil])
              clear hcnt
              gi_wp2
              go_roundw
              case rel => exact ⟨k + 1, by omega, by go_num, by rw [unhide hsuc]; exact hJ _ _ _ ((Below.refl _ _).alloc (Nat.le_refl _) _) hJr, hkr.trans (KpQ.of_below ((Below.refl _ _).alloc (Nat.le_refl _) _)), (Below.heap_alloc _ _ _ hB6l).trans (unhide hB6c)⟩
              case measure => simp [intOf]; omega
            · obtain rfl : k = r.es.length := by omega
              gi_wp2
              go_roundw
              case rel => exact ⟨j + 1, by omega, by go_num, by rw [upR_succ, unhide hrg]; exact hJr, hkr⟩
              case measure => simp [intOf]; omega
        · obtain rfl : j = s.rs.length := by omega
          gi_wp2
          go_roundw
          case rel => exact ⟨i + 1, by omega, by go_num, by rw [upT_succ, unhide hsg]; exact hJq, hkq⟩
          case measure => simp [intOf]; omega
    · obtain rfl : i = T.length := by omega
      gi_wp2
      go_end0
      exact ⟨⟨_, rfl⟩, .inl ⟨_, rfl, hJp⟩⟩
end Go.Proofs.Ytnihgfhaenpfkaa.Base
