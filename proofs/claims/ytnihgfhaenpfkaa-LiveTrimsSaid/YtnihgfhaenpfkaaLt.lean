/-
  live.Last: the greatest numbers.
-/
import Derived.Test.YtnihgfhaenpfkaaLn
import Derived.Test.YtnihgfhaenpfkaaMx
namespace Go.Proofs.Ytnihgfhaenpfkaa.Base
open Go.RowKit Go.Proofs.YtnihgfhaenpfkaaW.PrintWords Go.Proofs.YtnihgfhaenpfkaaW.PrintLast
set_option linter.unusedSimpArgs false
set_option linter.unusedVariables false
attribute [local go_sem] Ent.arr0 Ent.arr1 Ent.arr2 Ent.set1 Ent.set2 Ent.arr_size Ent.okW Ent.lit run_ldV_ent run_stV_ent ldR_some stR_true rd_new_whole rd_alloc canW_new canW_alloc wr_new wr_alloc rd_drew rd_drewN canW_drew canW_drewN rd_setCell rd_setCell_same canW_setCell' Option.map_some cell_wr_other rd_wr_same rd_wr_other
attribute [local go_sem ↓] ldV_ent stV_ent
attribute [local go_sem] wide_fn' wide_depth' Oper.semAt_some
attribute [local go_sem ↓] stV_had
attribute [local go_sem] run_stV_had U.okW U.arr_size
/-- append within a fence, whatever was shown of it -/
theorem appendIn_ {F : Fence} {n : Nat} {P : Program} {w : World} {ops : Array Oper} {rest : List Oper} {o : Oper} {a : Act} {Q : Exit → Act → World → Prop}
    (hg : o.guard = none) (s x : Operand) (t : TypeId) (hop : o.op = Op.call { callee := Callee.builtin Builtin.append, args := #[s, x], argTypes := #[t, t] }) (v' : Value) (w' : World)
    (hrun : (Builtin.append_ #[t, t] o.type #[a.eval s, a.eval x]).run P w = .ok v' w') (hK : wpListIn F n P ops Q rest (a.put o.dst v') w') : wpListIn F n P ops Q (o :: rest) a w := by
  refine wpListIn_plain hg fun K hK' => ?_
  unfold Oper.wpIn
  refine ⟨?_, ?_⟩
  · simp [Oper.about, hop, resolve, Target.leads, Sem.run_pure]
  · rw [Oper.semAt_plain F _ _ (by rw [hop]; intro c hc'; cases hc')]
    simp [execOp, hop, resolve, invoke, builtin, hrun, Result.andThen]
    exact hK' _ _ hK
theorem appendIn_x {F : Fence} {n : Nat} {P : Program} {w : World} {ops : Array Oper} {rest : List Oper} {o : Oper} {a : Act} {Q : Exit → Act → World → Prop}
    (hg : o.guard = none) (s x : Operand) (t : TypeId) (hop : o.op = Op.call { callee := Callee.builtin Builtin.append, args := #[s, x], argTypes := #[t, t] }) {X' : Sem Value} {W' : World} {v' : Value} {w' : World}
    (hrun : X'.run P W' = .ok v' w') (hX : Builtin.append_ #[t, t] o.type #[a.eval s, a.eval x] = X') (hW : w = W') (hK : wpListIn F n P ops Q rest (a.put o.dst v') w') : wpListIn F n P ops Q (o :: rest) a w := by
  subst hX hW
  exact appendIn_ hg s x t hop v' w' hrun hK
def serT (T : List SupD) (i : Nat) : List Int := (List.range i).flatMap fun j => (T.getD j zS).rs.map RowD.ser
theorem serT_succ (T : List SupD) (i : Nat) : serT T (i + 1) = serT T i ++ (T.getD i zS).rs.map RowD.ser := by simp [serT, List.range_succ, List.flatMap_append]
theorem serT_le (T : List SupD) (i j : Nat) (hi : i < T.length) : (serT T i ++ ((T.getD i zS).rs.take j).map RowD.ser).length ≤ (serT T T.length).length := by
  have h1 : serT T (i + 1) <+: serT T T.length := range_pre _ hi
  have h2 := h1.length_le
  rw [serT_succ] at h2
  simp only [List.length_append, List.length_map, List.length_take] at h2 ⊢
  omega
structure LsJ (w : World) (n₀ B4 : Nat) (pre : List U) (W : World) : Prop where
  b : Below w.heap.size w W
  z : n₀ ≤ W.heap.size
  ex : ∃ (A' : Option Addr) (c' : Nat), W.heap[B4]? = some (.cells #[.slice A' pre.length c'] 31 (0, 0)) ∧ pre.length ≤ c' ∧ Ow W n₀ 3 1 (.slice A' pre.length c') (IntA (pre.map fun u => u.e.s))
theorem LsJ.keep {w : World} {n₀ B4 : Nat} {pre : List U} {W W' : World} (h : LsJ w n₀ B4 pre W) (hb : Below w.heap.size w W') (hz : W.heap.size ≤ W'.heap.size)
    (hk : ∀ (k : Nat) (cs : Array Value) (t : TypeId), W.heap[k]? = some (.cells cs t (0, 0)) → W'.heap[k]? = some (.cells cs t (0, 0))) : LsJ w n₀ B4 pre W' := by
  obtain ⟨A', c', h1, h2, h3⟩ := h.ex
  refine ⟨hb, Nat.le_trans h.z hz, A', c', hk _ _ _ h1, h2, h3.mv fun k e => ?_⟩
  obtain ⟨cs, hcs⟩ := h3.tag e
  exact (hk _ _ _ hcs).trans hcs.symm
theorem LsJ.below {w : World} {n₀ B4 : Nat} {pre : List U} {W W' : World} (h : LsJ w n₀ B4 pre W) (hb : Below W.heap.size W W') : LsJ w n₀ B4 pre W' :=
  h.keep (h.b.trans (hb.mono h.b.size)) hb.size (fun k cs t hk => (hb.block k (Array.getElem?_eq_some_iff.1 hk).1).trans hk)
theorem LsJ.grow {w : World} {n₀ B4 : Nat} {pre : List U} {W W' : World} {row : Option Nat} (h : LsJ w n₀ B4 pre W) (hg : W.grownBy W' row) (hr : ∀ r, row = some r → w.heap.size ≤ r ∧ ∃ o : Obj, W.heap[r]? = some o ∧ o.isCells = false) : LsJ w n₀ B4 pre W' := by
  refine h.keep (below_grown h.b hg h.b.size (fun k e => (hr k e).1)) hg.size (fun k cs t hk => ?_)
  refine (hg.block k (Array.getElem?_eq_some_iff.1 hk).1 (fun e => ?_)).trans hk
  obtain ⟨_, o, ho, hc⟩ := hr k e.symm
  rw [hk] at ho
  cases ho
  simp [Obj.isCells] at hc
set_option maxRecDepth 100000 in
set_option maxHeartbeats 1000000 in
theorem last_any (A : Option Addr) (c : Nat) (T : List SupD) (w : World) (hsm : Small T) (hc : T.length ≤ c) (hs : Sups w w.heap.size A T) (hu : (ups T).length ≤ 1000) (hrn : (serT T T.length).length ≤ 1000) :
    Calls Try.prog 13 #[.slice A T.length c] w fun x w' => x = .returned (.tuple #[.int .i64 (maxL 0 ((ups T).map fun u => u.e.s)), .int .i64 (maxL 0 (serT T T.length))]) ∧ Below w.heap.size w w' := by
  refine (callsIn_wide (n := 0)).1 ?_
  refine callsIn_of_wp_marks Try.func13 rfl trivial ?_ rfl
  simp only [Try.ntmps13, List.size_toArray, List.length_cons, List.length_nil, Nat.reduceAdd, Nat.reduceSub, Array.replicate_succ, Array.replicate_zero, List.push_toArray, List.append_toArray, List.nil_append, List.cons_append]
  gi_wp2_with fail
  refine (callsIn_wide.2 (all_any A T.length c _)).mono ?_
  rintro e w2 ⟨rfl, rfl⟩
  gi_wp2_with fail
  obtain ⟨W2, hW2⟩ : ∃ W2, (w.alloc (Obj.cells #[Value.slice none 0 0] 31)).alloc (Obj.cells #[Value.slice A T.length c] 25) = W2 := ⟨_, rfl⟩
  rw [hW2]
  have z2 : W2.heap.size = w.heap.size + 2 := by rw [← hW2]; simp
  have hb2 : Below w.heap.size w W2 := by rw [← hW2]; exact ((Below.refl _ _).alloc (Nat.le_refl _) _).alloc (by simp) _
  have f4 : W2.heap[w.heap.size]? = some (.cells #[.slice none 0 0] 31 (0, 0)) := by rw [← hW2]; exact (Below.heap_alloc _ _ _ (by simp)).trans (heap_alloc_new _ _)
  have fl : W2.heap[w.heap.size + 1]? = some (.cells #[.slice A T.length c] 25 (0, 0)) := by
    rw [← hW2, show w.heap.size + 1 = (w.alloc (Obj.cells #[Value.slice none 0 0] 31)).heap.size from by simp]
    exact heap_alloc_new _ _
  have hJ0 : LsJ w (w.heap.size + 2) w.heap.size [] W2 := ⟨hb2, by omega, none, 0, f4, Nat.le_refl _, Ow.nil _ _ _ _⟩
  have hs2 := hs.below hb2
  clear hW2 f4
  replace z2 := hide z2
  refine range_c (gf := 19) rfl (fun _ _ => rfl) (all_q (fun k t => k = w.heap.size ∨ (w.heap.size + 2 ≤ k ∧ t = 3)) (w.heap.size + 1) w.heap.size (w.heap.size + 2) A c T (by omega) (by omega) (by rintro k t (rfl | ⟨h, rfl⟩); exact ⟨by omega, .inl (by omega)⟩; exact ⟨by omega, .inr rfl⟩) hsm W2 fl hs2 (by rw [unhide z2]; omega))
    (fun h k => h.trans k) (fun W l o o' hl h h2 _ => ⟨by simp [World.putObj], fun k cs t fr hk _ => (World.putObj_heap_other (fun e => by subst e; rw [h] at hk; cases hk; cases h2)).trans hk⟩) (fun A B h => ⟨h.size, fun k o hk _ => (h.block k (Array.getElem?_eq_some_iff.1 hk).1).trans hk⟩) (Below.refl _ _) (fun _ => rfl)
    (fun pre W => LsJ w (w.heap.size + 2) w.heap.size pre W) (fun _ _ _ => False) ?_ ?_ ?_ ?_ hJ0 ?_ ?_ ?_
  · rintro pre X Y row h hg hr
    exact h.grow hg (fun r e => ⟨by have := (hr r e).1; rw [unhide z2] at this; omega, (hr r e).2⟩)
  · intro c s W W' row h; exact h.elim
  · rintro pre X Y hs h
    exact h.below hs
  · intro c pre A B _ h; exact h
  · rintro l pre u W hI hlen hsp hsz
    gi_wp2_with fail
    have hWz : w.heap.size + 2 + 1 < W.heap.size := by rw [← unhide z2]; exact hsz
    refine ⟨KeepsOthers.alloc _ _, KpQ.of_below ((Below.refl W.heap.size W).alloc (Nat.le_refl _) _), fun X' => LsJ w (w.heap.size + 2) w.heap.size pre X' ∧ X'.heap[W.heap.size]? = some (.cells u.arr 56 (0, 0)), ?_, ⟨hI.below ((Below.refl _ _).alloc (Nat.le_refl _) _), heap_alloc_new _ _⟩, ?_⟩
    · rintro Y Z row ⟨h1, h2⟩ hg hr
      refine ⟨h1.grow hg (fun r e => ⟨by have := (hr r e).1; rw [unhide z2] at this; omega, (hr r e).2⟩), (hg.block _ (Array.getElem?_eq_some_iff.1 h2).1 (fun e => ?_)).trans h2⟩
      obtain ⟨_, o, ho, hc⟩ := hr _ e.symm
      rw [h2] at ho
      cases ho
      simp [Obj.isCells] at hc
    rintro W₂ ⟨hI2, hX2⟩ hz2
    obtain ⟨A', c', i1, i2, i3⟩ := hI2.ex
    have c2 : W₂.cell? ⟨W.heap.size, 2, none⟩ = some (.int .i64 u.e.s) := by
      have : W₂.cell? ⟨W.heap.size, 2, none⟩ = u.arr[2]? := by simp [World.cell?, hX2]
      exact this.trans u.at1.2.1
    have c4 : W₂.cell? ⟨w.heap.size, 0, none⟩ = some (.slice A' pre.length c') := by simp [World.cell?, i1]
    have hz2s : w.heap.size + 2 ≤ W₂.heap.size := hI2.z
    obtain ⟨A5, c5, w5, hrun, ho5, hg5, hc5⟩ := run_append_ia (W₂.alloc (.cells #[.int .i64 u.e.s] 3)) (w.heap.size + 2) pre.length _ (pre.map fun u => u.e.s) [u.e.s] (i3.alloc _) (by simp) 0 (W₂.heap.size + 1) (some ⟨W₂.heap.size, 0, none⟩) 1 1 (Sl.one (rd_new_whole _ _ _ _ _ _ rfl rfl) (Nat.zero_le _) (Nat.lt_succ_self _)) rfl (by omega) (by simp; omega) 31
    have hB4 : w5.heap[w.heap.size]? = some (.cells #[.slice A' pre.length c'] 31 (0, 0)) := (hg5.block _ (by simp; omega) (fun e => by have := (i3.lt _ e.symm).1; omega)).trans ((Below.heap_alloc _ _ _ (by omega)).trans i1)
    have d4 : w5.cell? ⟨w.heap.size, 0, none⟩ = some (.slice A' pre.length c') := by simp [World.cell?, hB4]
    have d4f : w5.frozen? ⟨w.heap.size, 0, none⟩ = false := by simp [World.frozen?, hB4]
    have hset := set_one hB4 (.slice A5 (pre.length + 1) c5)
    have hb5 : Below w.heap.size w w5 := below_grown (hI2.b.alloc (by omega) _) hg5 (by simp; omega) (fun k e => by have := (i3.lt k e).1; omega)
    have hko : KeepsOthers W₂ (w5.setCell ⟨w.heap.size, 0, none⟩ (.slice A5 (pre.length + 1) c5)) := by
      refine ((KeepsOthers.alloc W₂ _).trans (KeepsOthers.of_grownBy hg5 (fun j o e ho => ?_))).trans (KeepsOthers.setCell _ _ _)
      obtain ⟨cs, hcs⟩ := (i3.alloc (.cells #[.int .i64 u.e.s] 3)).tag e
      rw [hcs] at ho
      cases ho
      rfl
    have hkq : KpQ (fun k t => k = w.heap.size ∨ (w.heap.size + 2 ≤ k ∧ t = 3)) W₂ (w5.setCell ⟨w.heap.size, 0, none⟩ (.slice A5 (pre.length + 1) c5)) := by
      refine ⟨by rw [size_set']; have := hg5.size; simp at this; omega, fun k cs t fr hk hn => ?_⟩
      have hkl := (Array.getElem?_eq_some_iff.1 hk).1
      refine (Below.heap_setCell _ _ _ _ (fun e => hn (.inl e))).trans ((hg5.block k (by simp; omega) (fun e => ?_)).trans ((Below.heap_alloc _ _ _ hkl).trans hk))
      obtain ⟨cs', hcs⟩ := i3.tag e.symm
      rw [hk] at hcs
      injection hcs with hcs
      injection hcs with _ h3 _
      exact hn (.inr ⟨(i3.lt _ e.symm).1, h3⟩)
    have hfin : LsJ w (w.heap.size + 2) w.heap.size (pre ++ [u]) (w5.setCell ⟨w.heap.size, 0, none⟩ (.slice A5 (pre.length + 1) c5)) := by
      refine ⟨hb5.setCell (Nat.le_refl _) _, by rw [size_set']; have := hg5.size; simp at this; omega, A5, c5, ?_, by rw [List.length_append]; exact hc5, ?_⟩
      · rw [List.length_append]; exact hset
      · rw [List.length_append, List.map_append]
        exact ho5.setCell (by show w.heap.size < w.heap.size + 2; omega) _
    replace i1 := hide i1; replace hX2 := hide hX2; replace hB4 := hide hB4; replace hset := hide hset
    replace hz2 := hide hz2
    gi_wp2_with (refine appendIn_x (by rfl) (.tmp 14) (.tmp 18) 31 (by rfl) hrun ?_ ?_ ?_)
    all_goals first | rfl | exact ⟨hko, hkq, hfin⟩
  · rintro D xs W hDl rfl hI hD
    gi_wp2_with fail
    obtain ⟨A', c', i1, i2, i3⟩ := hI.ex
    have hsW := hs.below hI.b
    have hbW := hI.b
    have hzW := hI.z
    have hDW : D < W.heap.size := (Array.getElem?_eq_some_iff.1 hD).1
    obtain ⟨hT1, hT2⟩ := hsm
    replace i1 := hide i1; replace hD := hide hD
    clear hs hs2 fl hI hJ0
    gi_loopw [5, 22] (fun s5 s22 wr => ∃ (i : Nat) (A5 : Option Addr) (c5 : Nat), i ≤ T.length ∧ s22 = .int .i64 i ∧ s5 = .slice A5 (serT T i).length c5 ∧ (serT T i).length ≤ c5 ∧ Ow wr W.heap.size 3 1 (.slice A5 (serT T i).length c5) (IntA (serT T i)) ∧ Below W.heap.size W wr) (fun _ s22 _ => T.length - (intOf s22).toNat)
    case atStart => exact ⟨0, none, 0, by omega, rfl, rfl, Nat.le_refl _, Ow.nil _ _ _ _, Below.refl _ _⟩
    case round =>
      obtain ⟨i, A5, c5, hi, rfl, rfl, hc5, ho, hb⟩ := hrel
      have hz := hb.size
      by_cases hiT : i < T.length
      · have hiI : (i : Int) < T.length := by omega
        obtain ⟨b, o, rfl, _, hbl, hr⟩ := hsW.1.at_ (k := i) (by simpa using hiT)
        simp only [List.getElem_map] at hr
        obtain ⟨s, hsT⟩ : ∃ s, s = T[i] := ⟨_, rfl⟩
        have hsg : T.getD i zS = s := by rw [getD_in hiT, hsT]
        have hsm1 := hT2 s (by rw [hsT]; exact List.getElem_mem hiT)
        have hss := hsW.2 s (by rw [hsT]; exact List.getElem_mem hiT)
        have hcap := fun j => serT_le T i j hiT
        rw [← hsT] at hr
        have hr2 := (rd_below hb (by omega) _ _).trans hr
        have c0 : wr.cell? ⟨b, o + i * 2, none⟩ = some (.int .i64 s.st) := rd_cell hr2 0 (by omega)
        have c1 : wr.cell? ⟨b, o + i * 2 + 1, none⟩ = some (.slice s.A s.rs.length s.c) := rd_cell hr2 1 (by omega)
        obtain ⟨A2, hA2⟩ : ∃ A2, A2 = s.A := ⟨_, rfl⟩
        rw [← hA2] at hss c1
        clear hr hr2 hsT hA2
        rw [hsg] at hcap
        have hss5 := hide (serT_succ T i)
        replace hsg := hide hsg
        gi_wp2_with fail
        have hob := ho.alloc (Obj.cells #[.int .i64 s.st, .slice A2 s.rs.length s.c] 43)
        have hbb : Below W.heap.size W (wr.alloc (Obj.cells #[.int .i64 s.st, .slice A2 s.rs.length s.c] 43)) := hb.alloc hz _
        gi_loopw [5, 29] (fun s5 s29 wr => ∃ (j : Nat) (A5 : Option Addr) (c5 : Nat), j ≤ s.rs.length ∧ s29 = .int .i64 j ∧ s5 = .slice A5 (serT T i ++ (s.rs.take j).map RowD.ser).length c5 ∧ (serT T i ++ (s.rs.take j).map RowD.ser).length ≤ c5 ∧ Ow wr W.heap.size 3 1 (.slice A5 (serT T i ++ (s.rs.take j).map RowD.ser).length c5) (IntA (serT T i ++ (s.rs.take j).map RowD.ser)) ∧ Below W.heap.size W wr) (fun _ s29 _ => s.rs.length - (intOf s29).toNat)
        case atStart => exact ⟨0, A5, c5, by omega, rfl, by simp, by simpa using hc5, by simpa using hob, hbb⟩
        case round =>
          clear ho hb hob hbb hz hc5
          obtain ⟨j, A5, c5, hj, rfl, rfl, hc5, ho, hb⟩ := hrel
          have hz := hb.size
          have hcapj := hcap j
          obtain ⟨LL, hLL⟩ : ∃ LL, LL = serT T i ++ (s.rs.take j).map RowD.ser := ⟨_, rfl⟩
          rw [← hLL] at ho hc5 hcapj ⊢
          by_cases hjR : j < s.rs.length
          · have hjI : (j : Int) < s.rs.length := by omega
            obtain ⟨b2, o2, rfl, _, hbl2, hr⟩ := hss.1.at_ (k := j) (by simpa using hjR)
            simp only [List.getElem_map] at hr
            obtain ⟨r, hrT⟩ : ∃ r, r = s.rs[j] := ⟨_, rfl⟩
            have htk := hide (show serT T i ++ (s.rs.take (j + 1)).map RowD.ser = LL ++ [r.ser] by rw [hLL, hrT, List.take_succ_eq_append_getElem hjR, List.map_append, List.append_assoc]; rfl)
            rw [← hrT] at hr
            have hr2 := (rd_below hb (by omega) _ _).trans hr
            have d0 : wr.cell? ⟨b2, o2 + j * 3, none⟩ = some (.int .i64 r.ser) := rd_cell hr2 0 (by omega)
            have d1 : wr.cell? ⟨b2, o2 + j * 3 + 1, none⟩ = some (.int .i64 r.at_) := rd_cell hr2 1 (by omega)
            have d2 : wr.cell? ⟨b2, o2 + j * 3 + 2, none⟩ = some (.slice r.A r.es.length r.c) := rd_cell hr2 2 (by omega)
            clear hr hr2 hrT hLL
            obtain ⟨A6, c6, w6, hrun, ho6, hg6, hc6⟩ := run_append_ia ((wr.alloc (.cells #[.int .i64 r.ser, .int .i64 r.at_, .slice r.A r.es.length r.c] 47)).alloc (.cells #[.int .i64 r.ser] 3)) W.heap.size LL.length _ LL [r.ser] ((ho.alloc _).alloc _) rfl 0 (wr.heap.size + 2) (some ⟨wr.heap.size + 1, 0, none⟩) 1 1 (Sl.one (rd_new_whole _ _ _ _ _ _ (by simp) rfl) (Nat.zero_le _) (by omega)) rfl (by omega) (by simp; omega) 31
            have hb6 : Below W.heap.size W w6 := below_grown ((hb.alloc hz _).alloc (by simp; omega) _) hg6 (by simp; omega) (fun k e => (ho.lt k e).1)
            clear hcapj hcap ho hg6
            gi_wp2_with (refine appendIn_x (by rfl) (.tmp 33) (.tmp 36) 31 (by rfl) hrun ?_ ?_ ?_)
            all_goals first
              | rfl
              | (go_roundw
                 case rel => exact ⟨j + 1, A6, c6, by omega, by go_num, by rw [unhide htk, List.length_append]; rfl, by rw [unhide htk, List.length_append]; exact hc6, by rw [unhide htk, List.length_append]; exact ho6, hb6⟩
                 case measure => simp [intOf]; omega)
          · obtain rfl : j = s.rs.length := by omega
            have he := hide (show serT T (i + 1) = LL by rw [unhide hss5, unhide hsg, hLL, List.take_of_length_le (Nat.le_refl _)])
            clear hLL
            gi_wp2_with fail
            go_roundw
            case rel => exact ⟨i + 1, A5, c5, by omega, by go_num, by rw [unhide he], by rw [unhide he]; exact hc5, by rw [unhide he]; exact ho, hb⟩
            case measure => simp [intOf]; omega
      · obtain rfl : i = T.length := by omega
        have hg1 : w.heap.size < W.heap.size := by omega
        have d4 : wr.cell? ⟨w.heap.size, 0, none⟩ = some (.slice A' (ups T).length c') := by
          have : wr.heap[w.heap.size]? = _ := (hb.block _ hg1).trans (unhide i1)
          simp [World.cell?, this]
        have hcon1 := greatest_any A' c' (ups T).length ((ups T).map fun u => u.e.s) wr (by simp) (by omega) ((((i3.below hb (fun g hg => (i3.lt g hg).2)).sl (IntA.sized _) (by omega)).less (Nat.zero_le _)))
        have hcon2 := fun w3 (hb3 : Below wr.heap.size wr w3) => greatest_any A5 c5 (serT T T.length).length (serT T T.length) w3 rfl (by omega) (((ho.below hb3 (fun g hg => (ho.lt g hg).2)).sl (IntA.sized _) (by omega)).less (Nat.zero_le _))
        clear ho
        gi_wp2_with fail
        (with_reducible refine (callsIn_wide.2 hcon1).mono ?_)
        rintro e w3 ⟨rfl, hb3⟩
        have hcon := hcon2 w3 hb3
        clear hcon1 hcon2
        gi_wp2_with fail
        (with_reducible refine (callsIn_wide.2 hcon).mono ?_)
        rintro e w4 ⟨rfl, hb4⟩
        clear hcon
        have hbF : Below w.heap.size w w4 := ((hbW.trans (hb.mono (by omega))).trans (hb3.mono (by omega))).trans (hb4.mono (by have := hb3.size; omega))
        have hD4 : w4.heap[D]? = some (.deferred (some [])) := (hb4.block _ (by have := hb3.size; omega)).trans ((hb3.block _ (by omega)).trans ((hb.block _ hDW).trans (unhide hD)))
        gi_wp2_with fail
        refine ⟨by simp, .inl ⟨_, _, rfl, run_takeDeferred hD4, ?_⟩⟩
        exact ⟨_, results_tmp2 rfl _ _ _, rfl, hbF.grown (grownBy_putObj' w4 D (.deferred none)) hbF.size (fun k e => by cases e; rw [unhide z2] at hDl; omega)⟩
  · intro D c pre W _ _ h; exact h.elim
end Go.Proofs.Ytnihgfhaenpfkaa.Base
