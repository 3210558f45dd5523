/-
  Parts of a proof, laid together by a program of mine (pack.py): Pd.
-/
import Derived.StillTailTactics
import Derived.RegionIn
import Derived.Stop.RegionWithIn
import Derived.Test.YtibileffpgnjhaaZC21
namespace Go.Proofs.Ytibileffpgnjhaa.Base
open Go.RowKit Go.Proofs.YtibileffpgnjhaaW.PrintWords Go.Proofs.YtibileffpgnjhaaW.PrintLast
set_option linter.unusedSimpArgs false
set_option linter.unusedVariables false
attribute [local go_sem] Ent.arr0 Ent.arr1 Ent.arr2 Ent.set1 Ent.set2 Ent.arr_size Ent.okW Ent.lit run_ldV_ent run_stV_ent ldR_some stR_true rd_new_whole rd_alloc canW_new canW_alloc wr_new wr_alloc rd_drew rd_drewN canW_drew canW_drewN run_bsS_ent run_bsS_ent0 run_eqI_ent rd_setCell rd_setCell_same canW_setCell' Option.map_some cell_wr_other rd_wr_same rd_wr_other
attribute [local go_sem ↓] ldV_ent stV_ent bsS_ent eqI_ent
attribute [local go_sem] Ent.arr0g Ent.arr1g Ent.arr2g run_ldV_dat rd_dat run_eqI_dat dat_lit
attribute [local go_sem ↓] ldV_dat eqI_dat
attribute [local go_sem] run_bdE4 run_bdE3 run_bdE1 run_bdE0
attribute [local go_sem ↓] build_ent
theorem wide_fn' (f : FuncId) : Fence.wide.fn f = True := rfl
theorem wide_depth' : Fence.wide.depth = none := rfl
attribute [local go_sem] wide_fn' wide_depth' Oper.semAt_some
def padL (es : List Ent) (n : Nat) : List (Int × Ent) := (List.range n).map fun (i : Nat) => ((i : Int), es.getD i zeroE)
theorem padL_len (es : List Ent) (n : Nat) : (padL es n).length = n := by simp [padL]
theorem padL_succ (es : List Ent) (n : Nat) : padL es (n + 1) = padL es n ++ [((n : Int), es.getD n zeroE)] := by simp [padL, List.range_succ]
theorem padL_pre (es : List Ent) {j n : Nat} (h : j ≤ n) : padL es j <+: padL es n := by
  unfold padL
  refine ⟨(List.range' j (n - j)).map fun (i : Nat) => ((i : Int), es.getD i zeroE), ?_⟩
  rw [← List.map_append, List.range_eq_range', List.range_eq_range']
  congr 1
  have := List.range'_append_1 (s := 0) (m := j) (n := n - j)
  rw [Nat.zero_add] at this
  rw [this]
  congr 1
  omega
set_option maxRecDepth 100000 in
theorem padded_any (A : Option Addr) (l c : Nat) (n : Int) (w : World) :
    Calls Try.prog 28 #[.slice A l c, .int .i64 n] w fun e w' => e = .returned (.func (.func 47) #[] #[.pointer (some ⟨w.heap.size + 1, 0, none⟩), .pointer (some ⟨w.heap.size, 0, none⟩)]) ∧
      w' = (w.alloc (.cells #[.slice A l c] 22)).alloc (.cells #[.int .i64 n] 3) := by
  go_enter Try.func28, Try.ntmps28
  go_wp2
  go_ret
  exact ⟨rfl, rfl⟩
/-- what a round keeps: the two captured boxes, and what was there ahead of the call -/
structure KpP (m₀ Bl Bn : Nat) (A B : World) : Prop where
  size : A.heap.size ≤ B.heap.size
  bl : B.heap[Bl]? = A.heap[Bl]?
  bn : B.heap[Bn]? = A.heap[Bn]?
  low : ∀ k, k < m₀ → B.heap[k]? = A.heap[k]?
theorem KpP.refl (m₀ Bl Bn : Nat) (A : World) : KpP m₀ Bl Bn A A := ⟨Nat.le_refl _, rfl, rfl, fun _ _ => rfl⟩
theorem KpP.trans {m₀ Bl Bn : Nat} {A B C : World} (h : KpP m₀ Bl Bn A B) (k : KpP m₀ Bl Bn B C) : KpP m₀ Bl Bn A C :=
  ⟨Nat.le_trans h.size k.size, k.bl.trans h.bl, k.bn.trans h.bn, fun j hj => (k.low j hj).trans (h.low j hj)⟩
theorem KpP.of_below {m₀ Bl Bn n : Nat} {A B : World} (h : Below n A B) (h1 : Bl < n) (h2 : Bn < n) (h3 : m₀ ≤ n) : KpP m₀ Bl Bn A B :=
  ⟨h.size, h.block _ h1, h.block _ h2, fun k hk => h.block k (by omega)⟩
set_option maxRecDepth 100000 in
set_option maxHeartbeats 2000000 in
theorem pad1_c (Bl Bn m₀ n₀ n : Nat) (A : Option Addr) (c : Nat) (es : List Ent) (hBl : Bl < n₀) (hBn : Bn < n₀) (hm₀ : m₀ ≤ n₀) (hn : n ≤ 1000000) (hl : es.length ≤ 1000000) (w : World)
    (fl : w.cell? ⟨Bl, 0, none⟩ = some (.slice A es.length c)) (fn : w.cell? ⟨Bn, 0, none⟩ = some (.int .i64 n)) (hs : Sl w 0 m₀ 19 A (es.map Ent.arr)) (h0 : n₀ ≤ w.heap.size) :
    IterC Try.prog 47 #[.pointer (some ⟨Bn, 0, none⟩), .pointer (some ⟨Bl, 0, none⟩)] (fun x : Int × Ent => #[.int .i64 x.1, .agg x.2.arr]) (fun A B => Below A.heap.size A B) (KpP m₀ Bl Bn)
      (fun xs => xs = padL es n) (fun pre => pre <+: padL es n) n w := by
  intro l J Jx W hbW hJ hJx hY hJ0
  refine callsIn_of_wp Try.func47 rfl trivial ?_ rfl
  simp only [Try.ntmps47, List.size_toArray, List.length_cons, List.length_nil, Nat.reduceAdd, Nat.reduceSub, Array.replicate_succ, Array.replicate_zero, List.push_toArray, List.append_toArray, List.nil_append, List.cons_append]
  have hbW0 : Below n₀ w W := hbW.mono h0
  have hWz : n₀ ≤ W.heap.size := Nat.le_trans h0 hbW.size
  have fn' := (hbW0.cell (p := ⟨Bn, 0, none⟩) hBn).trans fn
  gi_wp2
  gi_loopw [4, 7] (fun s4 s7 wr => ∃ j : Nat, j ≤ n ∧ s7 = .int .i64 j ∧ J (padL es j) wr ∧ KpP m₀ Bl Bn W wr) (fun _ s7 _ => n - (intOf s7).toNat)
  case atStart => exact ⟨0, by omega, rfl, hJ0, KpP.refl _ _ _ _⟩
  case round =>
    obtain ⟨j, hj, rfl, hJp, hb⟩ := hrel
    have hz := hb.size
    have hzz : n₀ ≤ wr.heap.size := by omega
    have fl2 := (World.cell?_of_block (a := ⟨Bl, 0, none⟩) hb.bl).trans ((hbW0.cell (p := ⟨Bl, 0, none⟩) hBl).trans fl)
    have hBlr : Bl < wr.heap.size := by omega
    by_cases hjn : j < n
    · have hjI : (j : Int) < n := by omega
      have hj0 : (0 : Int) ≤ j := by omega
      have hpre : padL es j ++ [((j : Int), es.getD j zeroE)] <+: padL es n := by rw [← padL_succ]; exact padL_pre es hjn
      have hsuc := hide (padL_succ es j)
      by_cases hje : j < es.length
      · have hjeI : (j : Int) < es.length := by omega
        obtain ⟨b, o, rfl, _, hbl, hr⟩ := hs.at_ (k := j) (by simpa using hje)
        simp only [List.getElem_map] at hr
        have hr2 := (rd_congr (hb.low b hbl) _ _).trans ((rd_below hbW0 (Nat.lt_of_lt_of_le hbl hm₀) _ _).trans hr)
        obtain ⟨X, hX⟩ : ∃ X, X = es[j] := ⟨_, rfl⟩
        have hXj : es.getD j zeroE = X := by rw [hX, List.getD_eq_getElem?_getD, List.getElem?_eq_getElem hje]; rfl
        rw [← hX] at hr2
        rw [hXj] at hpre hsuc
        clear hX hr hXj
        have hbl' : b < wr.heap.size := by omega
        obtain ⟨fn1, tmps, assign, body, hy, hR⟩ := hY (padL es j) ((j : Int), X) (wr.alloc (Obj.cells X.arr 44)) (hJ _ _ _ ((Below.refl _ _).alloc (Nat.le_refl _) _) hJp) (by rw [padL_len]; exact hjn) hpre
        dsimp only at hy
        have hpre' := hide hpre
        clear hpre
        gi_wp2
        refine hR.mono ?_
        rintro e W3 (⟨rfl, hJ3, hk3⟩ | ⟨rfl, hJx3⟩)
        · have hb3 : KpP m₀ Bl Bn W W3 := (hb.trans (KpP.of_below ((Below.refl n₀ wr).alloc hzz _) hBl hBn hm₀)).trans hk3
          gi_wp2
          go_roundw
          case rel => exact ⟨j + 1, by omega, by go_num, by rw [unhide hsuc]; exact hJ3, hb3⟩
          case measure => simp [intOf]; omega
        · gi_wp2
          refine bodyPost_ret (results_none rfl _ _ _) rfl ?_
          exact ⟨⟨_, rfl⟩, .inr ⟨_, unhide hpre', hJx3⟩⟩
      · have hjeI : ¬ (j : Int) < es.length := by omega
        obtain ⟨X, hX⟩ : ∃ X, X = zeroE := ⟨_, rfl⟩
        have hXj : es.getD j zeroE = X := by rw [hX, List.getD_eq_getElem?_getD, List.getElem?_eq_none (by omega)]; rfl
        rw [hXj] at hpre hsuc
        have hXa : ({ k := 0, l := 0, s := 0, d := fun _ => 0 } : Ent) = X := hX.symm
        clear hX hXj
        obtain ⟨fn1, tmps, assign, body, hy, hR⟩ := hY (padL es j) ((j : Int), X) (wr.alloc (Obj.cells X.arr 44)) (hJ _ _ _ ((Below.refl _ _).alloc (Nat.le_refl _) _) hJp) (by rw [padL_len]; exact hjn) hpre
        dsimp only at hy
        have hpre' := hide hpre
        clear hpre
        gi_wp2
        refine hR.mono ?_
        rintro e W3 (⟨rfl, hJ3, hk3⟩ | ⟨rfl, hJx3⟩)
        · have hb3 : KpP m₀ Bl Bn W W3 := (hb.trans (KpP.of_below ((Below.refl n₀ wr).alloc hzz _) hBl hBn hm₀)).trans hk3
          gi_wp2
          go_roundw
          case rel => exact ⟨j + 1, by omega, by go_num, by rw [unhide hsuc]; exact hJ3, hb3⟩
          case measure => simp [intOf]; omega
        · gi_wp2
          refine bodyPost_ret (results_none rfl _ _ _) rfl ?_
          exact ⟨⟨_, rfl⟩, .inr ⟨_, unhide hpre', hJx3⟩⟩
    · obtain rfl : j = n := by omega
      gi_wp2
      go_end0
      exact ⟨⟨_, rfl⟩, .inl ⟨_, rfl, hJp⟩⟩
end Go.Proofs.Ytibileffpgnjhaa.Base
