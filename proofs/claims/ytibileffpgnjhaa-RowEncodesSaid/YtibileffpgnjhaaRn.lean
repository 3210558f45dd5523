/-
  The document's row (ramekinref11.Encode).
-/
import Derived.Test.YtibileffpgnjhaaRw
import Derived.Deep.DeepCutAuto
namespace Go.Proofs.Ytibileffpgnjhaa.Base
open Go.RowKit Go.Proofs.YtibileffpgnjhaaW.PrintWords Go.Proofs.YtibileffpgnjhaaW.PrintLast
set_option linter.unusedSimpArgs false
set_option linter.unusedVariables false
attribute [local go_sem] Ent.arr0 Ent.arr1 Ent.arr2 Ent.set1 Ent.set2 Ent.arr_size Ent.okW Ent.lit run_ldV_ent run_stV_ent ldR_some stR_true rd_new_whole rd_alloc canW_new canW_alloc wr_new wr_alloc rd_drew rd_drewN canW_drew canW_drewN run_bsS_ent run_bsS_ent0 run_eqI_ent rd_setCell rd_setCell_same canW_setCell' Option.map_some cell_wr_other rd_wr_same rd_wr_other
attribute [local go_sem ↓] ldV_ent stV_ent bsS_ent eqI_ent
attribute [local go_sem] Ent.arr0g Ent.arr1g Ent.arr2g run_ldV_dat rd_dat run_eqI_dat dat_lit
attribute [local go_sem ↓] ldV_dat eqI_dat
attribute [local go_sem] run_bdE4 run_bdE3 run_bdE1 run_bdE0
attribute [local go_sem ↓] build_ent
instance (n : Int) : Decidable (I64 n) := by unfold I64; exact inferInstance
def zeroE : Ent := { k := 0, l := 0, s := 0, d := fun _ => 0 }
theorem ok_zero : OkE zeroE := ⟨by decide, by decide, by decide, fun _ _ => rfl⟩
def rowsE (s u a : Int) (es : List Ent) (n : Nat) : List (List Int) := (List.range n).map fun (i : Nat) => bytesE s u a (i : Int) (es.getD i zeroE)
theorem rowsE_len (s u a : Int) (es : List Ent) (n : Nat) : (rowsE s u a es n).length = n := by simp [rowsE]
theorem rowsE_succ (s u a : Int) (es : List Ent) (n : Nat) : rowsE s u a es (n + 1) = rowsE s u a es n ++ [bytesE s u a (n : Int) (es.getD n zeroE)] := by simp [rowsE, List.range_succ]
/-- what the document's parities are called for, and answer -/
def ParC (f : Nat) (L : List (List Int)) (p q : List Int) : Prop :=
  ∀ (A : Option Addr) (c : Nat) (w : World), Kd.C (Kd.slice 5 (Kd.int .u8)) w A L.length L → L.length ≤ c →
    Calls Try.prog f #[.slice A L.length c] w fun e w' => ∃ v0 v1 : Value, e = .returned (.tuple #[v0, v1]) ∧ (∃ ok, Kd.R (Kd.int .u8) 5 w' w.heap.size ok v0 p) ∧ (∃ ok, Kd.R (Kd.int .u8) 5 w' w.heap.size ok v1 q) ∧ Below w.heap.size w w'
set_option maxRecDepth 100000 in
set_option maxHeartbeats 4000000 in
theorem rencode_ok (d n : Nat) (s u a : Int) (A : Option Addr) (c : Nat) (es : List Ent) (p q : List Int) (w : World) (hd : 6 ≤ d ∧ d ≤ 8) (hdn : d = n + 2) (hs : 1 ≤ s ∧ s ≤ 1099511627776) (hu : 0 ≤ u ∧ u ≤ 255) (ha : 0 ≤ a ∧ a ≤ 255) (hl : es.length ≤ n) (hwf : ∀ e ∈ es, e.Wf) (hok : ∀ e ∈ es, OkE e)
    (hc : es.length ≤ c) (hs0 : Sl w 0 w.heap.size 19 A (es.map Ent.arr)) (hp : p.length ≤ 1000000) (hq : q.length ≤ 1000000) (hpar : ParC 34 (rowsE s u a es n) p q) :
    Calls Try.prog 14 #[.int .i64 d, .int .i64 s, .int .i64 u, .int .i64 a, .slice A es.length c] w fun x w' =>
      (∃ A' c' T, x = .returned (.tuple #[.slice A' d c', .int .i64 0]) ∧ d ≤ c' ∧ Rws w' w.heap.size (.slice A' d c') T ∧ T.map (·.2.2) = rowsE s u a es n ++ [p, q]) ∧ Below w.heap.size w w' := by
  have hlI : (es.length : Int) ≤ (d : Int) - 2 := by omega
  have hdI : (d : Int) - 2 = (n : Int) := by omega
  have hdw : 6 ≤ (d : Int) ∧ (d : Int) ≤ 8 := by omega
  replace hdn := hide hdn; replace hdI := hide hdI
  go_enter Try.func14, Try.ntmps14
  go_wp2_with fail
  go_loopw [12, 13, 14] (fun s12 s13 s14 wr => ∃ (j : Nat) (A2 : Option Addr) (c2 : Nat) (T : List Hr), j ≤ n ∧ s13 = .int .i64 j ∧ s12 = .slice A2 j c2 ∧ j ≤ c2 ∧ Rws wr w.heap.size (.slice A2 j c2) T ∧ T.map (·.2.2) = rowsE s u a es j ∧ Below w.heap.size w wr) (fun _ s13 _ _ => n - (intOf s13).toNat)
  case atStart => exact ⟨0, none, 0, [], by omega, rfl, rfl, by omega, Rws.nil _ _, rfl, Below.refl _ _⟩
  case round =>
    obtain ⟨j, A2, c2, T, hj, rfl, rfl, hc2, hT, hL, hb⟩ := hrel
    have hz := hb.size
    have hnd : n + 2 ≤ d := by have := unhide hdn; omega
    have hnd' : d ≤ n + 2 := by have := unhide hdn; omega
    by_cases hjn : j < n
    · have hjI : (j : Int) < (d : Int) - 2 := by omega
      have hj0 : (0 : Int) ≤ j := by omega
      replace hL := hide hL
      have hL := unhide hL
      by_cases hje : j < es.length
      · have hjeI : (j : Int) < es.length := by omega
        obtain ⟨b, o, rfl, _, hbl, hr⟩ := hs0.at_ (k := j) (by simpa using hje)
        simp only [List.getElem_map] at hr
        have hr2 := (rd_below hb hbl _ _).trans hr
        obtain ⟨X, hX⟩ : ∃ X, X = es[j] := ⟨_, rfl⟩
        have hXj : Hid (es.getD j zeroE = X) := hide (by rw [hX, List.getD_eq_getElem?_getD, List.getElem?_eq_getElem hje]; rfl)
        have hXw : X.Wf := by rw [hX]; exact hwf _ (List.getElem_mem hje)
        have hXo : OkE X := by rw [hX]; exact hok _ (List.getElem_mem hje)
        rw [← hX] at hr2
        clear hX hr
        have hbl' : b < wr.heap.size := by omega
        have hch := rcheck_any X (wr.alloc (Obj.cells X.arr 44))
        rw [chk_yes hXo] at hch
        replace hL := hide hL; replace hXw := hide hXw
        clear hXo
        go_wp2_with fail
        (with_reducible refine hch.mono ?_)
        rintro x w2 ⟨rfl, hb2⟩
        clear hch hr2
        have hL := unhide hL; have hXw := unhide hXw; have hXj := unhide hXj
        have hW2 := hb2.size
        rw [World.size_alloc] at hW2
        have hbox : rd w2 wr.heap.size 0 19 = some X.arr := (rd_below hb2 (by simp) _ _).trans (rd_new_whole _ _ _ _ _ _ rfl (Ent.arr_size _).symm)
        have hbb2 : Below w.heap.size w w2 := (hb.alloc hz _).trans (hb2.mono (by simp; omega))
        have hcon := rbytes_any s u a (j : Int) X w2 (by unfold I64; omega) (by unfold I64; omega) (by unfold I64; omega) (by unfold I64; omega) hXw.1 hXw.2.1 hXw.2.2.1
        go_wp2_with fail
        (with_reducible refine hcon.mono ?_)
        rintro x w3 ⟨⟨A3, c3, rfl, hc3, ho3⟩, hb3⟩
        have hW3 := hb3.size
        have hbb3 : Below w.heap.size w w3 := hbb2.trans (hb3.mono (by omega))
        have hT3 : Rws w3 w.heap.size (.slice A2 j c2) T := ((hT.below ((Below.refl _ _).alloc (Nat.le_refl _) _)).below (hb2.mono (Nat.le_refl _))).below hb3
        have hs3 : Sl w3 0 w3.heap.size 1 A3 (By (bytesE s u a j X)) := (ho3.sl (By.sized _) (by omega)).less (Nat.zero_le _)
        have hTl : T.length = j := by have := congrArg List.length hL; rw [List.length_map, rowsE_len] at this; exact this
        have hlt := fun g e => hT.1.lt g e
        obtain ⟨A4, c4, w4, hrun, hc4, hT4, hg4⟩ := Rws.app w3 w.heap.size (.slice A2 j c2) T hT3 [(A3, c3, bytesE s u a j X)] 1 rfl (fun t ht => by
          rw [List.mem_singleton.1 ht]
          refine ⟨by rw [bytesE_len]; exact hc3, by rw [bytesE_len]; omega, hs3, fun ad had => ?_⟩
          have hA3 : A3 = some ad := had
          subst hA3
          have h7 := ho3.lt ad.block rfl
          exact ⟨h7.2, fun e => by have := (hlt ad.block e.symm).2; omega⟩) (by omega) (by omega) 25
        have hcell : ([((A3, c3, bytesE s u a j X) : Hr)].map Hr.cell).toArray = #[Value.slice A3 48 c3] := by simp [Hr.cell, bytesE_len]
        rw [hcell, hTl] at hrun
        rw [hcell] at hg4
        rw [hTl] at hc4 hT4
        have hb4 : Below w.heap.size w w4 := below_grown (hbb3.alloc (by omega) _) hg4 (by simp; omega) (fun k ek => (hlt k ek).1)
        have hL4 : (T ++ [((A3, c3, bytesE s u a j X) : Hr)]).map (·.2.2) = rowsE s u a es (j + 1) := by rw [List.map_append, hL, rowsE_succ, hXj]; rfl
        replace hL4 := hide hL4; replace hT4 := hide hT4
        clear hcell hTl hlt hs3 hT3 ho3 hcon hbox hL hT hXj
        go_wp2_with (at_builtin; refine wpList_step (fun K hK => step_append_ex (o := ⟨some 81, _, _, _, _, _⟩) (.tmp 72) (.tmp 80) 25 rfl (by rfl) ⟨_, _, hrun, hK _ _ ?_⟩))
        go_roundw
        case rel => exact ⟨j + 1, A4, c4, _, by omega, by go_num, rfl, hc4, unhide hT4, unhide hL4, hb4⟩
        case measure => simp [intOf]; omega
      · have hjeI : ¬ (j : Int) < es.length := by omega
        obtain ⟨X, hX⟩ : ∃ X, X = zeroE := ⟨_, rfl⟩
        have hXj : Hid (es.getD j zeroE = X) := hide (by rw [hX, List.getD_eq_getElem?_getD, List.getElem?_eq_none (by omega)]; rfl)
        have hXw : X.Wf := by rw [hX]; exact ⟨by decide, by decide, by decide, fun _ => ⟨Int.le_refl _, by show (0 : Int) < 256; omega⟩⟩
        have hXo : OkE X := by rw [hX]; exact ok_zero
        have hXa : ({ k := 0, l := 0, s := 0, d := fun _ => 0 } : Ent) = X := hX.symm
        clear hX
        have hch := rcheck_any X (wr.alloc (Obj.cells X.arr 44))
        rw [chk_yes hXo] at hch
        replace hL := hide hL; replace hXw := hide hXw
        clear hXo
        go_wp2_with fail
        (with_reducible refine hch.mono ?_)
        rintro x w2 ⟨rfl, hb2⟩
        clear hch
        have hL := unhide hL; have hXw := unhide hXw; have hXj := unhide hXj
        have hW2 := hb2.size
        rw [World.size_alloc] at hW2
        have hbox : rd w2 wr.heap.size 0 19 = some X.arr := (rd_below hb2 (by simp) _ _).trans (rd_new_whole _ _ _ _ _ _ rfl (Ent.arr_size _).symm)
        have hbb2 : Below w.heap.size w w2 := (hb.alloc hz _).trans (hb2.mono (by simp; omega))
        have hcon := rbytes_any s u a (j : Int) X w2 (by unfold I64; omega) (by unfold I64; omega) (by unfold I64; omega) (by unfold I64; omega) hXw.1 hXw.2.1 hXw.2.2.1
        go_wp2_with fail
        (with_reducible refine hcon.mono ?_)
        rintro x w3 ⟨⟨A3, c3, rfl, hc3, ho3⟩, hb3⟩
        have hW3 := hb3.size
        have hbb3 : Below w.heap.size w w3 := hbb2.trans (hb3.mono (by omega))
        have hT3 : Rws w3 w.heap.size (.slice A2 j c2) T := ((hT.below ((Below.refl _ _).alloc (Nat.le_refl _) _)).below (hb2.mono (Nat.le_refl _))).below hb3
        have hs3 : Sl w3 0 w3.heap.size 1 A3 (By (bytesE s u a j X)) := (ho3.sl (By.sized _) (by omega)).less (Nat.zero_le _)
        have hTl : T.length = j := by have := congrArg List.length hL; rw [List.length_map, rowsE_len] at this; exact this
        have hlt := fun g e => hT.1.lt g e
        obtain ⟨A4, c4, w4, hrun, hc4, hT4, hg4⟩ := Rws.app w3 w.heap.size (.slice A2 j c2) T hT3 [(A3, c3, bytesE s u a j X)] 1 rfl (fun t ht => by
          rw [List.mem_singleton.1 ht]
          refine ⟨by rw [bytesE_len]; exact hc3, by rw [bytesE_len]; omega, hs3, fun ad had => ?_⟩
          have hA3 : A3 = some ad := had
          subst hA3
          have h7 := ho3.lt ad.block rfl
          exact ⟨h7.2, fun e => by have := (hlt ad.block e.symm).2; omega⟩) (by omega) (by omega) 25
        have hcell : ([((A3, c3, bytesE s u a j X) : Hr)].map Hr.cell).toArray = #[Value.slice A3 48 c3] := by simp [Hr.cell, bytesE_len]
        rw [hcell, hTl] at hrun
        rw [hcell] at hg4
        rw [hTl] at hc4 hT4
        have hb4 : Below w.heap.size w w4 := below_grown (hbb3.alloc (by omega) _) hg4 (by simp; omega) (fun k ek => (hlt k ek).1)
        have hL4 : (T ++ [((A3, c3, bytesE s u a j X) : Hr)]).map (·.2.2) = rowsE s u a es (j + 1) := by rw [List.map_append, hL, rowsE_succ, hXj]; rfl
        replace hL4 := hide hL4; replace hT4 := hide hT4
        clear hcell hTl hlt hs3 hT3 ho3 hcon hbox hL hT hXj
        go_wp2_with (at_builtin; refine wpList_step (fun K hK => step_append_ex (o := ⟨some 81, _, _, _, _, _⟩) (.tmp 72) (.tmp 80) 25 rfl (by rfl) ⟨_, _, hrun, hK _ _ ?_⟩))
        go_roundw
        case rel => exact ⟨j + 1, A4, c4, _, by omega, by go_num, rfl, hc4, unhide hT4, unhide hL4, hb4⟩
        case measure => simp [intOf]; omega
    · have hjn' : j ≤ n := hj
      have hjn2 : n ≤ j := by omega
      have hje : j = n := by omega
      rw [hje] at hL
      have hTl : T.length = n := by have := congrArg List.length hL; rw [List.length_map, rowsE_len] at this; exact this
      obtain ⟨A5, c5, hv5, hc5, hC5⟩ := hT.C (by omega)
      rw [hL, rowsE_len] at hv5 hc5 hC5
      injection hv5 with e1 e2 e3
      have hCn : Kd.C (Kd.slice 5 (Kd.int .u8)) wr A2 (rowsE s u a es n).length (rowsE s u a es n) := by rw [e1, rowsE_len]; exact hC5
      have hcall := hpar A2 c2 wr hCn (by rw [rowsE_len]; omega)
      rw [rowsE_len, ← hje] at hcall
      replace hje := hide hje; replace hL := hide hL; replace hTl := hide hTl
      clear hCn hC5 e1 e2 e3
      have hjI : ¬ (j : Int) < (d : Int) - 2 := by omega
      go_wp2_with fail
      (with_reducible refine hcall.mono ?_)
      rintro x w3 ⟨v0, v1, rfl, ⟨ok0, hR0⟩, ⟨ok1, hR1⟩, hb3⟩
      obtain ⟨A6, c6, rfl, hc6, hs6, hblk6⟩ := by_of_R hR0
      obtain ⟨A7, c7, rfl, hc7, hs7, hblk7⟩ := by_of_R hR1
      have hbb3 : Below w.heap.size w w3 := hb.trans (hb3.mono hz)
      have hz3 := hbb3.size
      have hT3 := hT.below hb3
      have hlt := fun g e => hT.1.lt g e
      obtain ⟨A8, c8, w8, hrun, hc8, hT8, hg8⟩ := Rws.app w3 w.heap.size (.slice A2 j c2) T hT3 [(A6, c6, p), (A7, c7, q)] 2 rfl (fun t ht => by
        have key : ∀ (A : Option Addr) (c : Nat) (r : List Int), r.length ≤ c → r.length ≤ 1000000 → Sl w3 wr.heap.size w3.heap.size 1 A (By r) → (∀ a, A = some a → wr.heap.size ≤ a.block ∧ a.block < w3.heap.size) → t = (A, c, r) → t.2.2.length ≤ t.2.1 ∧ t.2.2.length ≤ 1000000 ∧ Sl w3 0 w3.heap.size 1 t.1 (By t.2.2) ∧ ∀ a, t.1 = some a → a.block < w3.heap.size ∧ some a.block ≠ (Value.slice A2 j c2).ownBlock := by
          rintro A c r k1 k2 k3 k4 rfl
          exact ⟨k1, k2, k3.less (Nat.zero_le _), fun a ha => ⟨(k4 a ha).2, fun e => by have := (hlt a.block e.symm).2; have := (k4 a ha).1; omega⟩⟩
        rcases List.mem_cons.1 ht with h | h
        · exact key A6 c6 p hc6 hp hs6 hblk6 h
        · exact key A7 c7 q hc7 hq hs7 hblk7 (List.mem_singleton.1 h)) (by have := unhide hTl; omega) hz3 25
      have hcell : ([((A6, c6, p) : Hr), (A7, c7, q)].map Hr.cell).toArray = #[Value.slice A6 p.length c6, Value.slice A7 q.length c7] := rfl
      rw [hcell, unhide hTl, ← unhide hje] at hrun
      rw [hcell] at hg8
      rw [unhide hTl, ← unhide hje] at hc8 hT8
      have hb8 : Below w.heap.size w w8 := below_grown (hbb3.alloc hz3 _) hg8 (by simp; omega) (fun k ek => (hlt k ek).1)
      have hL8 : (T ++ [((A6, c6, p) : Hr), (A7, c7, q)]).map (·.2.2) = rowsE s u a es n ++ [p, q] := by rw [List.map_append, unhide hL]; rfl
      replace hL8 := hide hL8; replace hT8 := hide hT8; replace hb8 := hide hb8
      clear hcell hlt hT3 hcall hs6 hs7 hR0 hR1 hblk6 hblk7 hT hg8
      go_wp2_with (at_builtin; refine wpList_step (fun K hK => step_append_ex (o := ⟨some 91, _, _, _, _, _⟩) (.tmp 87) (.tmp 90) 25 rfl (by rfl) ⟨_, _, hrun, hK _ _ ?_⟩))
      go_ret2
      have hjd : j + 2 = d := by have := unhide hje; omega
      refine ⟨⟨A8, c8, _, by rw [← hjd]; first | done | rfl, by rw [← hjd]; exact hc8, by rw [← hjd]; exact unhide hT8, unhide hL8⟩, unhide hb8⟩
end Go.Proofs.Ytibileffpgnjhaa.Base
