/-
  Parts of a proof, laid together by a program of mine (pack.py): Dl.
-/
import Derived.Test.YtodbmgafejclmaaZD21
namespace Go.Proofs.Ytodbmgafejclmaa.Base
open Go.RowKit Go.Maps Go.Proofs.YtodbmgafejclmaaW.PrintWords Go.Proofs.YtodbmgafejclmaaW.PrintLast
open Go.Proofs.Ytodbmgafejclmaa.Fld Go.Proofs.Ytodbmgafejclmaa.Pl
set_option linter.unusedSimpArgs false
set_option linter.unusedVariables false
attribute [local go_sem] run_field_tal
/-- what a row's pages say: a number of an error, or a row's number and its slots -/
abbrev DecA := Int × Option (Int × List Ent)
def DecR (r : DecA) (a : Int) (w : World) (x : Ending) (w' : World) : Prop :=
  match r.2 with
  | none => x = .returned (.tuple #[.agg #[.int .i64 0, .int .i64 0, .slice none 0 0], .int .i64 r.1])
  | some (ser, es) => ∃ A' c', x = .returned (.tuple #[.agg #[.int .i64 ser, .int .i64 a, .slice A' es.length c'], .int .i64 r.1]) ∧ es.length ≤ c' ∧ Sl w' w.heap.size w'.heap.size 19 A' (es.map Ent.arr)
open Classical in
noncomputable def decL (s a : Int) (ps : List Pg) : DecA :=
  if fine48 ps ∧ rightR (fixR (pgB ps) (lostG 0 ps)) = true then (match slotL s a 0 0 ((fixR (pgB ps) (lostG 0 ps)).take (ps.length - 2)) [] with | some r => (0, some r) | none => (5, none)) else (5, none)
open Classical in
noncomputable def decP (s a : Int) (ps : List Pg) (most : Int) : DecA :=
  if ¬ (6 ≤ ps.length ∧ ps.length ≤ 8 ∧ 0 ≤ most ∧ most ≤ 2) then (1, none) else if 0 < zs ps ∨ most < (ps.length : Int) - gs ps then (early ps, none) else decL s a ps
theorem slotL_len (s a : Int) : ∀ (rows : List (List Int)) (i : Nat) (ser : Int) (acc : List Ent) (r : Int × List Ent), slotL s a i ser rows acc = some r → r.2.length = acc.length + rows.length
  | [], i, ser, acc, r, h => by
    simp only [slotL, Option.some.injEq] at h
    subst h; simp
  | b :: bs, i, ser, acc, r, h => by
    simp only [slotL] at h
    cases hb : parseB b with
    | none => rw [hb] at h; cases h
    | some he =>
      obtain ⟨h1, e1⟩ := he
      rw [hb] at h
      simp only at h
      by_cases hc : h1 = ⟨if i = 0 then h1.a else ser, s, a, (i : Int)⟩
      · rw [if_pos hc] at h
        have := slotL_len s a bs _ _ _ r h
        simp at this ⊢
        omega
      · rw [if_neg hc] at h
        cases h
set_option maxRecDepth 100000 in
set_option maxHeartbeats 2000000 in
theorem decode_arg (s a most : Int) (A : Option Addr) (c N : Nat) (w : World) (h : ¬ (6 ≤ N ∧ N ≤ 8 ∧ 0 ≤ most ∧ most ≤ 2)) :
    Calls Try.prog 24 #[.int .i64 s, .int .i64 a, .slice A N c, .int .i64 most] w fun x w' => x = .returned (.tuple #[.agg #[.int .i64 0, .int .i64 0, .slice none 0 0], .int .i64 1]) ∧ Below w.heap.size w w' := by
  have hdies := fun w => dies_any (N : Int) w
  obtain ⟨D, hD⟩ : ∃ D : Bool, D = (decide (6 ≤ (N : Int)) && decide ((N : Int) ≤ 8)) := ⟨_, rfl⟩
  rw [← hD] at hdies
  have hrd : ∀ W : World, W.heap[w.heap.size]? = some (.cells #[.int .i64 0, .int .i64 0, .slice none 0 0] 39 (0, 0)) → rd (((W.setCell ⟨w.heap.size, 0, none⟩ (.int .i64 0)).setCell ⟨w.heap.size, 1, none⟩ (.int .i64 0)).setCell ⟨w.heap.size, 2, none⟩ (.slice none 0 0)) w.heap.size 0 3 = some #[.int .i64 0, .int .i64 0, .slice none 0 0] := fun W h => by
    rw [rd_setCell_same, rd_setCell_same, rd_setCell_same]
    simp [rd, h]
  have hb0 : Below w.heap.size w (w.alloc (Obj.cells #[.int .i64 0, .int .i64 0, .slice none 0 0] 39)) := (Below.refl _ _).alloc (Nat.le_refl _) _
  have hnew := rd_new_whole w #[.int .i64 0, .int .i64 0, .slice none 0 0] 39 (0, 0) _ 3 rfl rfl
  by_cases hd : 6 ≤ N ∧ N ≤ 8
  · have hD' : D = true := by rw [hD, decide_eq_true (by omega), decide_eq_true (by omega)]; rfl
    subst hD'
    clear hD
    rcases (by omega : most < 0 ∨ (0 ≤ most ∧ 2 < most)) with hm | ⟨hm0, hm⟩
    · clear h
      go_enter Try.func24, Try.ntmps24
      go_wp2_with fail
      refine (hdies _).mono ?_
      rintro e w1 ⟨rfl, rfl⟩
      go_wp2_with fail
      refine bodyPost_ret (results_ct Try.results24 Try.underlying39 rfl info_row (cs := #[.int .i64 0, .int .i64 0, .slice none 0 0]) rfl hnew) rfl ⟨rfl, hb0⟩
    · clear h
      go_enter Try.func24, Try.ntmps24
      go_wp2_with fail
      refine (hdies _).mono ?_
      rintro e w1 ⟨rfl, rfl⟩
      go_wp2_with fail
      refine bodyPost_ret (results_ct Try.results24 Try.underlying39 rfl info_row (cs := #[.int .i64 0, .int .i64 0, .slice none 0 0]) rfl hnew) rfl ⟨rfl, hb0⟩
  · have hD' : D = false := by
      rw [hD, Bool.and_eq_false_iff]
      rcases (by omega : N < 6 ∨ 8 < N) with h1 | h1
      · exact .inl (decide_eq_false (by omega))
      · exact .inr (decide_eq_false (by omega))
    subst hD'
    clear hD
    clear h
    go_enter Try.func24, Try.ntmps24
    go_wp2_with fail
    refine (hdies _).mono ?_
    rintro e w1 ⟨rfl, rfl⟩
    go_wp2_with fail
    refine bodyPost_ret (results_ct Try.results24 Try.underlying39 rfl info_row (cs := #[.int .i64 0, .int .i64 0, .slice none 0 0]) rfl hnew) rfl ⟨rfl, hb0⟩
set_option maxRecDepth 100000 in
set_option maxHeartbeats 4000000 in
theorem decode_late (s a most : Int) (A : Option Addr) (c : Nat) (ps : List Pg) (w : World) (hx : ∀ p ∈ ps, I64 p.1) (hl : 6 ≤ ps.length ∧ ps.length ≤ 8) (hm : 0 ≤ most ∧ most ≤ 2) (hc : ps.length ≤ c) (hs : Sl w 0 w.heap.size 2 A (ps.map Pg.arr)) (hp : ∀ p ∈ ps, PgOk w p)
    (he : ¬ (0 < zs ps ∨ most < (ps.length : Int) - gs ps)) :
    Calls Try.prog 24 #[.int .i64 s, .int .i64 a, .slice A ps.length c, .int .i64 most] w fun x w' => DecR (decL s a ps) a w x w' ∧ Below w.heap.size w w' := by
  obtain ⟨N, hN⟩ : ∃ N, N = ps.length := ⟨_, rfl⟩
  have hz0 : zs ps = 0 := by omega
  have hlo : (lostG 0 ps).length ≤ 2 := by
    have := lostG_len ps 0
    have h2 : gs ps = (ps.map (·.1)).count 2 := rfl
    omega
  have hst := fun (W : World) hs => states_any A c ps W hx (by omega) hc hs
  have hpay := fun (W : World) hs hp => payloads_any A c ps W hl.1 hl.2 hlo hc hs hp
  rw [← hN] at hl hc he hst hpay ⊢
  have hdies := fun w => dies_tt (N : Int) w (by omega)
  have hgl : gs ps ≤ N := by unfold gs; rw [hN]; exact Nat.le_trans List.count_le_length (by simp)
  have hsub : wrap64 ((N : Int) - (gs ps : Int)) = (N : Int) - (gs ps : Int) := by rw [← i64_w]; exact IntWalk.i64_in ((N : Int) - (gs ps : Int)) (by omega)
  obtain ⟨g, hg⟩ : ∃ g : Nat, g = gs ps := ⟨_, rfl⟩
  rw [← hg] at hsub hgl he
  have hle : ¬ (most < (N : Int) - (g : Int)) := by omega
  replace hsub := hide hsub
  replace hN := hide hN
  replace hx := hide hx
  replace hp := hide hp
  replace hz0 := hide hz0
  replace hg := hide hg
  replace hlo := hide hlo
  clear he
  go_enter Try.func24, Try.ntmps24
  go_wp2_with fail
  refine (hdies _).mono ?_
  rintro e w1 ⟨rfl, rfl⟩
  go_wp2_with fail
  obtain ⟨W0, hW⟩ : ∃ W0, w.alloc (Obj.cells #[.int .i64 0, .int .i64 0, .slice none 0 0] 39) = W0 := ⟨_, rfl⟩
  rw [hW]
  have z0 : W0.heap.size = w.heap.size + 1 := by rw [← hW]; simp
  have b0 : Below w.heap.size w W0 := by rw [← hW]; exact (Below.refl _ _).alloc (Nat.le_refl _) _
  have f0 : W0.heap[w.heap.size]? = some (.cells #[.int .i64 0, .int .i64 0, .slice none 0 0] 39 (0, 0)) := by rw [← hW]; exact heap_alloc_new _ _
  clear hW
  replace z0 := hide z0
  obtain ⟨P, hP⟩ : ∃ P, P = w.heap.size := ⟨_, rfl⟩
  rw [← hP] at f0 ⊢
  replace hP := hide hP
  refine (hst W0 ((hs.below b0).more (by rw [unhide z0]; omega))).mono ?_
  rintro e w1 ⟨b, D, rfl, hb1, hT, hD⟩
  have z01 : W0.heap.size = P + 1 := by rw [unhide hP]; exact unhide z0
  have f1 := (hb1.block P (by omega)).trans f0
  have hb1w : Below w.heap.size w w1 := b0.trans (hb1.mono (by rw [unhide z0]; omega))
  have hpay1 := hpay w1 ((hs.below hb1w).more hb1w.size) (fun p hpm => ((unhide hp) p hpm).below hb1w)
  have z1 : P + 1 ≤ w1.heap.size := (Array.getElem?_eq_some_iff.1 f1).1
  clear hst hpay f0 hb1
  replace f1 := hide f1
  replace z01 := hide z01
  have hk0 := kl_int (x := 0) ⟨by omega, by omega⟩
  have hk2 := kl_int (x := 2) ⟨by omega, by omega⟩
  have hcz : Hid (∀ cc : Int, D.atKey (.int .i64 0) (.lit (.int .i64 0)) = .lit (.int .i64 cc) → cc = 0) := hide fun cc h => by rw [hT.cnt h]; exact congrArg Nat.cast (unhide hz0)
  have hcg : Hid (∀ cc : Int, D.atKey (.int .i64 2) (.lit (.int .i64 0)) = .lit (.int .i64 cc) → cc = (g : Int)) := hide fun cc h => by rw [unhide hg]; exact hT.cnt h
  clear hT
  have hNne : ¬ ((0 : Int) = (N : Int)) := by omega
  go_wp2_with (first | (at_lookup; refine wpList_lookup_own_int _ rfl _ _ 79 rfl 3 3 .i64 mlaw3 Try.underlying79 Try.underlying3 (mzero3 _) b N D rfl hD _ _ rfl hk0 ?_; intro c_1 hat hwc; obtain rfl := unhide hcz _ hat; clear hat hwc) | (at_lookup; refine wpList_lookup_own_int _ rfl _ _ 79 rfl 3 3 .i64 mlaw3 Try.underlying79 Try.underlying3 (mzero3 _) b N D rfl hD _ _ rfl hk2 ?_; intro c_1 hat hwc; obtain rfl := unhide hcg _ hat; clear hat hwc))
  (with_reducible refine hpay1.mono ?_)
  rintro x w5 ⟨hx5, hb5⟩
  have f5 := (hb5.block P (by omega)).trans (unhide f1)
  have hb5w := hb1w.trans (hb5.mono hb1w.size)
  have z5 : P + 1 ≤ w5.heap.size := (Array.getElem?_eq_some_iff.1 f5).1
  have hPl : w.heap.size ≤ P := by rw [unhide hP]; exact Nat.le_refl _
  have c60 : w5.cell? ⟨P, 0, none⟩ = some (.int .i64 0) := by simp [World.cell?, f5]
  have c61 : w5.cell? ⟨P, 1, none⟩ = some (.int .i64 0) := by simp [World.cell?, f5]
  have c62 : w5.cell? ⟨P, 2, none⟩ = some (.slice none 0 0) := by simp [World.cell?, f5]
  have f60 : w5.frozen? ⟨P, 0, none⟩ = false := by simp [World.frozen?, f5]
  have f61 : w5.frozen? ⟨P, 1, none⟩ = false := by simp [World.frozen?, f5]
  have f62 : w5.frozen? ⟨P, 2, none⟩ = false := by simp [World.frozen?, f5]
  have hrd : ∀ (W : World) (x y z : Value), W.heap[P]? = some (.cells #[.int .i64 0, .int .i64 0, .slice none 0 0] 39 (0, 0)) → rd (((W.setCell ⟨P, 0, none⟩ x).setCell ⟨P, 1, none⟩ y).setCell ⟨P, 2, none⟩ z) P 0 3 = some #[x, y, z] := fun W x y z h => by
    rw [rd_setCell_same, rd_setCell_same, rd_setCell_same]
    simp [rd, h]
  clear hpay1 f1 hD hcz hcg hk0 hk2
  by_cases hok : fine48 ps ∧ rightR (fixR (pgB ps) (lostG 0 ps)) = true
  · obtain ⟨A', c', rfl, hc', hC'⟩ := hx5.1 hok
    clear hx5
    obtain ⟨F, hF⟩ : ∃ F, F = fixR (pgB ps) (lostG 0 ps) := ⟨_, rfl⟩
    obtain ⟨g1, g2, g3⟩ := pages_fix (ps := ps) (by rw [← unhide hN]; omega) (by rw [← unhide hN]; omega) (unhide hlo) hok.1 (fun p hpm => ((unhide hp) p hpm).2.2.2.2)
    have hdec : decL s a ps = (match slotL s a 0 0 (F.take (N - 2)) [] with | some r => (0, some r) | none => (5, none)) := by
      unfold decL
      rw [if_pos hok, ← hF, unhide hN]
    rw [← hF] at hC' g2 g3
    rw [← unhide hN] at g3
    obtain ⟨M, hM⟩ : ∃ M, N = M + 2 := ⟨N - 2, by omega⟩
    have hsl := rslots_any s a A' c' (N - 2) (F.take (N - 2)) w5 (by rw [List.length_take, g3]; omega) (by omega) (by omega) (fun r hr => g2 r (List.mem_of_mem_take hr)) (by omega) (hC'.take (by omega))
    have hsub2 : wrap64 ((N : Int) - 2) = (M : Int) := by rw [← i64_w, IntWalk.i64_in ((N : Int) - 2) (by omega)]; omega
    have hMc : M ≤ c' := by omega
    obtain ⟨o, ho⟩ : ∃ o, o = slotL s a 0 0 (F.take (N - 2)) [] := ⟨_, rfl⟩
    rw [← ho] at hsl hdec
    have hM' := hide hM
    replace f5 := hide f5
    replace hdec := hide hdec
    replace ho := hide ho
    clear hok hF g1 g2 g3 hM
    go_wp2_with fail
    (with_reducible refine hsl.mono ?_)
    rintro x w6 ⟨hx6, hb6⟩
    have f6 := (hb6.block P (by omega)).trans (unhide f5)
    have hb6w := hb5w.trans (hb6.mono hb5w.size)
    clear c60 c61 c62 f60 f61 f62 f5 hb5 hb6
    have c60 : w6.cell? ⟨P, 0, none⟩ = some (.int .i64 0) := by simp [World.cell?, f6]
    have c61 : w6.cell? ⟨P, 1, none⟩ = some (.int .i64 0) := by simp [World.cell?, f6]
    have c62 : w6.cell? ⟨P, 2, none⟩ = some (.slice none 0 0) := by simp [World.cell?, f6]
    have f60 : w6.frozen? ⟨P, 0, none⟩ = false := by simp [World.frozen?, f6]
    have f61 : w6.frozen? ⟨P, 1, none⟩ = false := by simp [World.frozen?, f6]
    have f62 : w6.frozen? ⟨P, 2, none⟩ = false := by simp [World.frozen?, f6]
    cases o with
    | none =>
      have hx6' : x = .returned (.tuple #[.agg #[.int .i64 0, .int .i64 0, .slice none 0 0], .int .i64 5]) := hx6
      subst hx6'
      have hr := hide (hrd w6 (.int .i64 0) (.int .i64 0) (.slice none 0 0) f6)
      have hbF : Below w.heap.size w (((w6.setCell ⟨P, 0, none⟩ (.int .i64 0)).setCell ⟨P, 1, none⟩ (.int .i64 0)).setCell ⟨P, 2, none⟩ (.slice none 0 0)) := ((hb6w.setCell hPl _).setCell hPl _).setCell hPl _
      clear hx6 f6 hrd
      go_wp2_with fail
      refine bodyPost_ret (results_ct Try.results24 Try.underlying39 rfl info_row (cs := #[.int .i64 0, .int .i64 0, .slice none 0 0]) rfl (unhide hr)) rfl ⟨by rw [unhide hdec]; rfl, hbF⟩
    | some r =>
      obtain ⟨ser, es⟩ := r
      obtain ⟨A7, c7, hx6', hc7, ho7⟩ := hx6
      subst hx6'
      have hr := hide (hrd w6 (.int .i64 ser) (.int .i64 a) (.slice A7 es.length c7) f6)
      have hbF : Below w.heap.size w (((w6.setCell ⟨P, 0, none⟩ (.int .i64 ser)).setCell ⟨P, 1, none⟩ (.int .i64 a)).setCell ⟨P, 2, none⟩ (.slice A7 es.length c7)) := ((hb6w.setCell hPl _).setCell hPl _).setCell hPl _
      have hsF : Sl (((w6.setCell ⟨P, 0, none⟩ (.int .i64 ser)).setCell ⟨P, 1, none⟩ (.int .i64 a)).setCell ⟨P, 2, none⟩ (.slice A7 es.length c7)) w.heap.size (((w6.setCell ⟨P, 0, none⟩ (.int .i64 ser)).setCell ⟨P, 1, none⟩ (.int .i64 a)).setCell ⟨P, 2, none⟩ (.slice A7 es.length c7)).heap.size 19 A7 (es.map Ent.arr) :=
        ((((ho7.setCell (by show P < w5.heap.size; omega) _).setCell (by show P < w5.heap.size; omega) _).setCell (by show P < w5.heap.size; omega) _).sl (Ent.sized _) (by omega)).less hb5w.size
      clear f6 hrd ho7
      go_wp2_with fail
      refine bodyPost_ret (results_ct Try.results24 Try.underlying39 rfl info_row (cs := #[.int .i64 ser, .int .i64 a, .slice A7 es.length c7]) rfl (unhide hr)) rfl ⟨by rw [unhide hdec]; exact ⟨A7, c7, rfl, hc7, hsF⟩, hbF⟩
  · have hx5' := hx5.2 hok
    subst hx5'
    have hdec : decL s a ps = (5, none) := if_neg hok
    have hr := hide (hrd w5 (.int .i64 0) (.int .i64 0) (.slice none 0 0) f5)
    have hbF : Below w.heap.size w (((w5.setCell ⟨P, 0, none⟩ (.int .i64 0)).setCell ⟨P, 1, none⟩ (.int .i64 0)).setCell ⟨P, 2, none⟩ (.slice none 0 0)) := ((hb5w.setCell hPl _).setCell hPl _).setCell hPl _
    replace hdec := hide hdec
    clear hx5 f5 hrd hok
    go_wp2_with fail
    refine bodyPost_ret (results_ct Try.results24 Try.underlying39 rfl info_row (cs := #[.int .i64 0, .int .i64 0, .slice none 0 0]) rfl (unhide hr)) rfl ⟨by rw [unhide hdec]; rfl, hbF⟩
/-- row.Decode -/
theorem decode_all (s a most : Int) (A : Option Addr) (c N : Nat) (ps : List Pg) (w : World) (hN : N = ps.length) (hx : ∀ p ∈ ps, I64 p.1) (hc : N ≤ c) (hs : Sl w 0 w.heap.size 2 A (ps.map Pg.arr)) (hp : ∀ p ∈ ps, PgOk w p) :
    Calls Try.prog 24 #[.int .i64 s, .int .i64 a, .slice A N c, .int .i64 most] w fun x w' => DecR (decP s a ps most) a w x w' ∧ Below w.heap.size w w' := by
  subst hN
  unfold decP
  by_cases h1 : 6 ≤ ps.length ∧ ps.length ≤ 8 ∧ 0 ≤ most ∧ most ≤ 2
  · rw [if_neg (not_not_intro h1)]
    by_cases h2 : 0 < zs ps ∨ most < (ps.length : Int) - gs ps
    · rw [if_pos h2]
      exact decode_early s a most A c ps w hx ⟨h1.1, h1.2.1⟩ h1.2.2 hc hs h2
    · rw [if_neg h2]
      exact decode_late s a most A c ps w hx ⟨h1.1, h1.2.1⟩ h1.2.2 hc hs hp h2
  · rw [if_pos h1]
    exact decode_arg s a most A c ps.length w h1
end Go.Proofs.Ytodbmgafejclmaa.Base
