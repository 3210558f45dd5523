/-
  LiveCounts: the walk of the law.
-/
import Derived.Test.YtnihgfhaenpfkaaMk
import Derived.Test.YtnihgfhaenpfkaaLa
namespace Go.Proofs.Ytnihgfhaenpfkaa.Base
open Go.RowKit Go.Proofs.YtnihgfhaenpfkaaW.PrintWords Go.Proofs.YtnihgfhaenpfkaaW.PrintLast
set_option linter.unusedSimpArgs false
set_option linter.unusedVariables false
attribute [local go_sem] Ent.arr0 Ent.arr1 Ent.arr2 Ent.set1 Ent.set2 Ent.arr_size Ent.okW Ent.lit run_ldV_ent run_stV_ent ldR_some stR_true rd_new_whole rd_alloc canW_new canW_alloc wr_new wr_alloc rd_drew rd_drewN canW_drew canW_drewN run_bsS_ent run_bsS_ent0 run_eqI_ent rd_setCell rd_setCell_same canW_setCell' Option.map_some cell_wr_other rd_wr_same rd_wr_other
attribute [local go_sem ↓] ldV_ent stV_ent bsS_ent eqI_ent
attribute [local go_sem] Ent.arr0g Ent.arr1g Ent.arr2g run_ldV_dat rd_dat run_eqI_dat dat_lit
attribute [local go_sem ↓] ldV_dat eqI_dat
attribute [local go_sem] run_bdE4 run_bdE3 run_bdE1 run_bdE0
attribute [local go_sem ↓] build_ent
theorem MkI.sups {w : World} {BO : Nat} {S : List SupD} {W : World} (h : MkI w BO 12 S W) : Sups W W.heap.size (some ⟨BO, 0, none⟩) S ∧ Small S ∧ ∀ u ∈ ups S, 1 ≤ u.e.s := by
  refine ⟨⟨h.arr.sl (Nat.zero_le _), fun s hs => ?_⟩, ⟨by rw [h.len]; omega, fun s hs => ?_⟩, fun u hu => ?_⟩
  · obtain ⟨h1, h2, h3⟩ := h.ok s hs
    refine ⟨(h2.sl (fun x hx => by obtain ⟨r, _, rfl⟩ := List.mem_map.1 hx; rfl) (by omega)).less (Nat.zero_le _), fun r hr => ((h3 r hr).2.2.sl (Ent.sized _) (by omega)).less (Nat.zero_le _)⟩
  · obtain ⟨h1, h2, h3⟩ := h.ok s hs
    exact ⟨by omega, fun r hr => by have := (h3 r hr).1; omega⟩
  · obtain ⟨i, hi, _, hc, s, hs, r, hr, he⟩ := ups_mem hu
    exact ((h.ok s hs).2.2 r hr).2.1 u.e he hc
/-! ### as many -/
def posP (ps : List Pl) : Nat := ps.countP fun p => decide (0 ≤ p.su)
theorem sum_one (k : Int) : ∀ m : Nat, ((List.range m).map fun i : Nat => if k = (i : Int) then 1 else 0).sum = if 0 ≤ k ∧ k < m then 1 else 0
  | 0 => by
    rw [if_neg (by omega)]
    rfl
  | m + 1 => by
    rw [List.range_succ, List.map_append, List.sum_append, sum_one k m]
    by_cases h : k = (m : Int)
    · rw [if_neg (by omega), if_pos (by omega)]; simp [h]
    · by_cases h2 : 0 ≤ k ∧ k < m
      · rw [if_pos h2, if_pos (by omega)]; simp [h]
      · rw [if_neg h2, if_neg (by omega)]; simp [h]
theorem sum_add (f g : Nat → Nat) : ∀ l : List Nat, (l.map fun i => f i + g i).sum = (l.map f).sum + (l.map g).sum
  | [] => rfl
  | x :: l => by simp only [List.map_cons, List.sum_cons, sum_add f g l]; omega
theorem cntP_cons (i : Nat) (p : Pl) (ps : List Pl) : cntP i (p :: ps) = cntP i ps + (if p.su = (i : Int) then 1 else 0) := by
  unfold cntP
  rw [List.countP_cons]
  by_cases h : p.su = (i : Int) <;> simp [h]
theorem sum_cnt (m : Nat) : ∀ ps : List Pl, (∀ p ∈ ps, p.su < m) → ((List.range m).map fun i => cntP i ps).sum = posP ps
  | [], _ => by
    have : ∀ l : List Nat, (l.map fun i => cntP i []).sum = 0 := fun l => by
      induction l with
      | nil => rfl
      | cons x l ih => rw [List.map_cons, List.sum_cons, ih]; rfl
    exact this _
  | p :: ps, h => by
    have e : (fun i => cntP i (p :: ps)) = fun i => cntP i ps + (if p.su = (i : Int) then 1 else 0) := funext fun i => cntP_cons i p ps
    rw [e, sum_add, sum_cnt m ps (fun q hq => h q (by simp [hq])), sum_one]
    unfold posP
    rw [List.countP_cons]
    have := h p (by simp)
    by_cases h0 : 0 ≤ p.su
    · rw [if_pos ⟨h0, this⟩]; simp [h0]
    · rw [if_neg (fun hh => h0 hh.1)]; simp [h0]
theorem posP_snoc (ps : List Pl) (p : Pl) : posP (ps ++ [p]) = posP ps + (if 0 ≤ p.su then 1 else 0) := by
  unfold posP
  rw [List.countP_append, List.countP_singleton]
  by_cases h : 0 ≤ p.su <;> simp [h]
def sumC (j : Nat) (ps : List Pl) : Nat := ((List.range j).map fun i => cntP i ps).sum
theorem sumC_succ (j : Nat) (ps : List Pl) : sumC (j + 1) ps = sumC j ps + cntP j ps := by
  unfold sumC
  rw [List.range_succ, List.map_append, List.sum_append]
  simp
theorem sumC_le (j m : Nat) (ps : List Pl) (h : ps.length ≤ m) : sumC j ps ≤ j * m := by
  induction j with
  | zero => simp [sumC]
  | succ j ih =>
    rw [sumC_succ, Nat.succ_mul]
    have := cntP_le j ps
    omega
theorem plL_bound {n : Nat} {S : List SupD} (h5 : S.length = 5) : ∀ p ∈ plL n (ups S), p.su < (5 : Nat) := fun p hp => by
  obtain ⟨k, hk, rfl⟩ := List.mem_map.1 hp
  cases hb : best (k : Int) (ups S) with
  | none => show (-1 : Int) < (5 : Nat); omega
  | some u =>
    obtain ⟨i, hi, hsu, _⟩ := ups_mem (best_mem hb).1
    show u.p.su < (5 : Nat)
    rw [hsu]
    omega
theorem lists_at {n a : Nat} (l : List U) (ha : a < n) : ∃ (h1 : a < ((plL n l).map Pl.arr).length) (h2 : a < ((esL n l).map Ent.arr).length), ((plL n l).map Pl.arr)[a] = (oP (best (a : Int) l)).arr ∧ ((esL n l).map Ent.arr)[a] = (oE (best (a : Int) l)).arr :=
  ⟨by simp [plL_len]; exact ha, by simp [esL_len]; exact ha, by simp [plL], by simp [esL]⟩
theorem pl_take {n a : Nat} (l : List U) (ha : a < n) : (plL n l).take (a + 1) = (plL n l).take a ++ [oP (best (a : Int) l)] := by
  rw [List.take_succ_eq_append_getElem (by rw [plL_len]; exact ha)]
  simp [plL]
theorem pos_ex (n : Nat) (S : List SupD) (hpos : ∀ u ∈ ups S, 1 ≤ u.e.s) (h : posP (plL n (ups S)) ≠ 0) : ∃ u ∈ ups S, 1 ≤ u.e.s := by
  obtain ⟨p, hp, h0⟩ := List.countP_pos_iff.1 (Nat.pos_of_ne_zero h)
  obtain ⟨k, hk, rfl⟩ := List.mem_map.1 hp
  cases hb : best (k : Int) (ups S) with
  | none => rw [hb] at h0; exact absurd h0 (by decide)
  | some u => exact ⟨u, (best_mem hb).1, hpos u (best_mem hb).1⟩
set_option maxRecDepth 100000 in
set_option maxHeartbeats 1000000 in
theorem counts_walk (A : Option Addr) (c : Nat) (L : List RawD) (a1 : Int) (w : World) (hwf : ∀ r ∈ L, r.Wf) (h1 : I64 a1) (hs : Raws w w.heap.size A L) :
    Calls Try.prog 3 #[.slice A L.length c, .int .i64 a1] w fun x w' => x = .returned (.bool true) ∧ Below w.heap.size w w' := by
  obtain ⟨n, hn, hw10⟩ := w14_lt a1 10 h1 (by omega) (by omega)
  have hnI : 0 ≤ (n : Int) ∧ (n : Int) < 10 := by omega
  go_enter Try.func3, Try.ntmps3
  go_wp2_with fail
  refine (known14 _).mono ?_
  rintro e w1 ⟨rfl, hb1⟩
  go_wp2_with fail
  refine (hw10 _).mono ?_
  rintro e wq ⟨rfl, rfl⟩
  go_wp2_with fail
  have hs1 : Raws w1 w1.heap.size A L := ⟨(hs.1.below hb1).more hb1.size, fun r hr => ((hs.2 r hr).below hb1).more hb1.size⟩
  refine (make_any A c L w1 hwf hs1).mono ?_
  rintro e w2 ⟨S, rfl, hM⟩
  obtain ⟨hSup, hSm, hpos⟩ := hM.sups
  have hlen := hM.len
  have hb2 : Below w.heap.size w w2 := hb1.trans (hM.b.mono hb1.size)
  have hof := of_ok (some ⟨w1.heap.size, 0, none⟩) 5 S n w2 (by omega) hSm (by omega) hSup
  have hla := fun w3 (hb : Below w2.heap.size w2 w3) => rlast_any (some ⟨w1.heap.size, 0, none⟩) 5 S w3 hSm ((hSup.below hb).more hb.size)
  rw [hlen] at hof
  simp only [hlen] at hla
  have hplb := plL_bound (n := n) hlen
  have hlS := hide hlen
  clear hSup hSm hlen hM hs1 hs
  go_wp2_with fail
  (with_reducible refine hof.mono ?_)
  rintro e w3 ⟨⟨bo, bp, rfl, ho, hp⟩, hb3⟩
  clear hof
  have hin : Calls Try.prog 10 #[.slice (some ⟨bp, 0, none⟩) (plL n (ups S)).length n, .int .i64 5] w3 _ := in_any (some ⟨bp, 0, none⟩) n 5 (plL n (ups S)) w3 (by omega) (by rw [plL_len]; omega) (hp.less (Nat.zero_le _))
  rw [plL_len] at hin
  go_wp2_with fail
  (with_reducible refine hin.mono ?_)
  rintro e w4 ⟨rfl, hA, hb4⟩
  clear hin
  have ho4 := ho.below hb4
  have hp4 := hp.below hb4
  have hb24 : Below w2.heap.size w2 w4 := hb3.trans (hb4.mono hb3.size)
  clear ho hp
  go_wp2_with fail
  go_loopw [10, 12] (fun s10 s12 wr => ∃ a m : Nat, a ≤ n ∧ s12 = .int .i64 a ∧ s10 = .int .i64 (posP ((plL n (ups S)).take a)) ∧ wr = w4.drewN m) (fun _ s12 _ => n - (intOf s12).toNat)
  case atStart => exact ⟨0, 0, by omega, rfl, rfl, rfl⟩
  case round =>
    obtain ⟨a, m, ha, rfl, rfl, rfl⟩ := hrel
    by_cases han : a < n
    · have haI : (a : Int) < n := by omega
      obtain ⟨q1, q2, q3, q4⟩ := lists_at (ups S) han
      obtain ⟨b', o', e', _, _, hr⟩ := hp4.at_ q1
      injection e' with e'
      injection e' with e1 e2
      subst e1 e2
      rw [q3, Nat.zero_add] at hr
      obtain ⟨b', o', e', _, _, hr2⟩ := ho4.at_ q2
      injection e' with e'
      injection e' with e1 e2
      subst e1 e2
      rw [q4, Nat.zero_add] at hr2
      have htk := hide (pl_take (ups S) han)
      have hpc := posP_snoc ((plL n (ups S)).take a) (oP (best (a : Int) (ups S)))
      have hle : posP ((plL n (ups S)).take a) ≤ 10 := Nat.le_trans List.countP_le_length (by rw [List.length_take]; omega)
      have d0 : w4.cell? ⟨bp, a * 3, none⟩ = some (.int .i64 (oP (best (a : Int) (ups S))).su) := rd_cell hr 0 (by omega)
      have d1 : w4.cell? ⟨bp, a * 3 + 1, none⟩ = some (.int .i64 (oP (best (a : Int) (ups S))).ro) := rd_cell hr 1 (by omega)
      have d2 : w4.cell? ⟨bp, a * 3 + 2, none⟩ = some (.int .i64 (oP (best (a : Int) (ups S))).sl) := rd_cell hr 2 (by omega)
      have c0 : w4.cell? ⟨bo, a * 19, none⟩ = some (.int .i64 (oE (best (a : Int) (ups S))).k) := rd_cell hr2 0 (by omega)
      have c1 : w4.cell? ⟨bo, a * 19 + 1, none⟩ = some (.int .i64 (oE (best (a : Int) (ups S))).l) := rd_cell hr2 1 (by omega)
      obtain ⟨C, hC⟩ : ∃ C, C = posP ((plL n (ups S)).take a) := ⟨_, rfl⟩
      rw [← hC] at hpc hle
      have hC' := hC
      rw [← hC]
      replace hC := hide hC
      clear hC' hr q1 q2 q3 q4
      cases hbo : best (a : Int) (ups S) with
      | none =>
        have hbo' := hide hbo
        rw [hbo] at d0 d1 d2 c0 c1 hr2 hpc
        change w4.cell? ⟨bp, a * 3, none⟩ = some (.int .i64 (-1)) at d0
        change w4.cell? ⟨bp, a * 3 + 1, none⟩ = some (.int .i64 0) at d1
        change w4.cell? ⟨bp, a * 3 + 2, none⟩ = some (.int .i64 0) at d2
        change w4.cell? ⟨bo, a * 19, none⟩ = some (.int .i64 0) at c0
        change w4.cell? ⟨bo, a * 19 + 1, none⟩ = some (.int .i64 0) at c1
        change rd w4 bo (a * 19) 19 = some ({ k := 0, l := 0, s := 0, d := fun _ => 0 } : Ent).arr at hr2
        have hpc1 : posP ((plL n (ups S)).take a ++ [oP none]) = C := by rw [hpc, if_neg (by show ¬ 0 ≤ (-1 : Int); omega)]; rfl
        clear hpc
        have hpc := hide hpc1
        clear hpc1
        go_wp2_with fail
        refine wp_region_quiet_lit (by kernel_rfl) (by kernel_rfl) ?_
        iterate 54 (go_big_quiet_step (fail))
        refine wpQuiet_nil ?_
        rintro _ ⟨nq, rfl⟩
        simp only [Exit.then]
        apply_assumption
        go_wp2_with fail
        go_roundw
        case rel => exact ⟨a + 1, m + nq, by omega, by go_num, by rw [unhide htk, unhide hbo', unhide hpc], rfl⟩
        case measure => simp [intOf]; omega
      | some u =>
        obtain ⟨i, hi, hsu, hcnt, _⟩ := ups_mem (best_mem hbo).1
        have hul := (best_mem hbo).2
        have hbo' := hide hbo
        rw [hbo] at d0 d1 d2 c0 c1 hr2 hpc
        change w4.cell? ⟨bp, a * 3, none⟩ = some (.int .i64 u.p.su) at d0
        change w4.cell? ⟨bp, a * 3 + 1, none⟩ = some (.int .i64 u.p.ro) at d1
        change w4.cell? ⟨bp, a * 3 + 2, none⟩ = some (.int .i64 u.p.sl) at d2
        change w4.cell? ⟨bo, a * 19, none⟩ = some (.int .i64 u.e.k) at c0
        change w4.cell? ⟨bo, a * 19 + 1, none⟩ = some (.int .i64 u.e.l) at c1
        change rd w4 bo (a * 19) 19 = some u.e.arr at hr2
        rw [hsu] at d0
        rw [hul] at c1
        have hpc1 : posP ((plL n (ups S)).take a ++ [oP (some u)]) = C + 1 := by rw [hpc, if_pos (by show 0 ≤ u.p.su; omega)]
        have z0 : decide ((0 : Int) ≤ (i : Int)) = true := decide_eq_true (by omega)
        have z1 : decide ((i : Int) < 0) = false := decide_eq_false (by omega)
        have z2 : (0 : Int) ≤ (i : Int) := by omega
        clear hsu hul hr2 hbo hpc
        have hpc := hide hpc1
        clear hpc1
        rcases hcnt with hk | hk
        all_goals
          rw [hk] at c0
          clear hk
          go_wp2_with fail
          refine wp_region_quiet_lit (by kernel_rfl) (by kernel_rfl) ?_
          iterate 54 (go_big_quiet_step (fail))
          refine wpQuiet_nil ?_
          rintro _ ⟨nq, rfl⟩
          simp only [Exit.then]
          apply_assumption
          go_wp2_with fail
          go_roundw
          case rel => exact ⟨a + 1, m + nq, by omega, by go_num, by rw [unhide htk, unhide hbo', unhide hpc]; simp, rfl⟩
          case measure => simp [intOf]; omega
    · obtain rfl : n = a := by omega
      have hpe : (plL n (ups S)).take n = plL n (ups S) := List.take_of_length_le (by rw [plL_len]; exact Nat.le_refl _)
      rw [hpe]
      replace hpe := hide hpe
      have hsum : sumC 5 (plL n (ups S)) = posP (plL n (ups S)) := sum_cnt 5 _ hplb
      have hpl : posP (plL n (ups S)) ≤ 10 := Nat.le_trans List.countP_le_length (by rw [plL_len]; omega)
      have hex : posP (plL n (ups S)) ≠ 0 → ∃ u ∈ ups S, 1 ≤ u.e.s := pos_ex n S hpos
      have hcl : ∀ j : Nat, cntP j (plL n (ups S)) ≤ 10 := fun j => Nat.le_trans (cntP_le j _) (by rw [plL_len]; omega)
      have hsl : ∀ j : Nat, j ≤ 5 → sumC j (plL n (ups S)) ≤ 50 := fun j hj => Nat.le_trans (sumC_le j 10 _ (by rw [plL_len]; omega)) (by omega)
      have hcel : ∀ j : Nat, j < 5 → w4.cell? ⟨w3.heap.size, j, none⟩ = some (.int .i64 (cntP j (plL n (ups S)))) := fun j hj => by
        have := hA.cell (k := j) (m := 0) (by simp [IntA, cntL_len]; exact hj) (by omega)
        simp [IntA, cntL] at this
        exact this
      have hss : ∀ j : Nat, sumC (j + 1) (plL n (ups S)) = sumC j (plL n (ups S)) + cntP j (plL n (ups S)) := fun j => sumC_succ j _
      have hs0 : sumC 0 (plL n (ups S)) = 0 := rfl
      clear hA ho4 hp4 hplb hpos
      generalize hps : plL n (ups S) = ps at *
      clear hps
      replace hsum := hide hsum
      replace hss := hide hss
      replace hs0 := hide hs0
      go_wp2_with fail
      go_loopw [11, 13] (fun s11 s13 wr => ∃ j m' : Nat, j ≤ 5 ∧ s13 = .int .i64 j ∧ s11 = .int .i64 (sumC j ps) ∧ wr = w4.drewN m') (fun _ s13 _ => 5 - (intOf s13).toNat)
      case atStart => exact ⟨0, m, by omega, rfl, by rw [unhide hs0]; rfl, rfl⟩
      case round =>
        obtain ⟨j, m', hj, rfl, rfl, rfl⟩ := hrel
        by_cases hj5 : j < 5
        · have hjI : (j : Int) < 5 := by omega
          have d := hcel j hj5
          have b1 := hcl j
          have b2 := hsl j (by omega)
          have e1 := hide (unhide hss j)
          obtain ⟨C1, hC1⟩ : ∃ C1, C1 = cntP j ps := ⟨_, rfl⟩
          obtain ⟨C2, hC2⟩ : ∃ C2, C2 = sumC j ps := ⟨_, rfl⟩
          rw [← hC1] at d b1
          rw [← hC2] at b2 ⊢
          have hw := hide (show wrap64 ((C2 : Int) + (C1 : Int)) = (C2 : Int) + (C1 : Int) from by rw [← i64_w]; exact IntWalk.i64_in ((C2 : Int) + (C1 : Int)) (by omega))
          replace hC1 := hide hC1
          replace hC2 := hide hC2
          go_wp2_with fail
          go_roundw
          case rel => exact ⟨j + 1, m', by omega, by go_num, by rw [unhide e1, ← unhide hC1, ← unhide hC2]; simp [unhide hw], rfl⟩
          case measure => simp [intOf]; omega
        · obtain rfl : j = 5 := by omega
          rw [unhide hsum]
          have hb4m : Below w2.heap.size w2 (w4.drewN m') := hb24.trans ⟨rfl, rfl, rfl, Nat.le_refl _, fun _ _ => rfl⟩
          have hcon := hla (w4.drewN m') hb4m
          have hbm : Below w.heap.size w (w4.drewN m') := hb2.trans (hb4m.mono hb2.size)
          go_wp2_with fail
          (with_reducible refine hcon.mono ?_)
          rintro e w5 ⟨⟨seq, ser, rfl, hseq⟩, hb5⟩
          have hbF : Below w.heap.size w w5 := hbm.trans (hb5.mono hbm.size)
          have hgt : posP ps ≠ 0 → 0 < seq := fun h => by
            obtain ⟨u, hu, hu1⟩ := hex h
            have := hseq u hu
            omega
          obtain ⟨C, hC⟩ : ∃ C, C = posP ps := ⟨_, rfl⟩
          rw [← hC] at hgt ⊢
          clear hC hcon hseq hex
          rcases Nat.eq_zero_or_pos C with h0 | h0
          · subst h0
            go_wp2_with fail
            go_ret
            exact ⟨rfl, hbF⟩
          · have h1 : 0 < seq := hgt (by omega)
            have h2 : ((C : Int) == 0) = false := by simp; omega
            clear hgt
            go_wp2_with fail
            go_ret
            exact ⟨rfl, hbF⟩
end Go.Proofs.Ytnihgfhaenpfkaa.Base
