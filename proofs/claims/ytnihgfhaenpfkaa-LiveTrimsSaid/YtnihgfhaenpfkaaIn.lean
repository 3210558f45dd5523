/-
  How many of each superblock count (live.In); numbers within (ramekinlaw14.within); the chapter's example.
-/
import Derived.Test.YtnihgfhaenpfkaaOf
namespace Go.Proofs.Ytnihgfhaenpfkaa.Base
open Go.RowKit Go.Proofs.YtnihgfhaenpfkaaW.PrintWords Go.Proofs.YtnihgfhaenpfkaaW.PrintLast
set_option linter.unusedSimpArgs false
set_option linter.unusedVariables false
set_option maxRecDepth 100000 in
theorem w14_any (a n : Int) (w : World) (ha0 : I64 a) (hn : 1 ≤ n) (hn2 : n ≤ 4611686018427387904) :
    Calls Try.prog 7 #[.int .i64 a, .int .i64 n] w fun e w' => e = .returned (.int .i64 (a % n)) ∧ w = w' := by
  have ha := ha0
  unfold I64 at ha
  have hk := tmod_neg_iff a n hn
  have h2 := Int.emod_nonneg a (b := n) (by omega)
  have h3 := Int.emod_lt_of_pos a (b := n) (by omega)
  by_cases h : a.tmod n < 0
  · rw [if_pos h] at hk
    have hb : -9223372036854775808 ≤ a.tmod n + n ∧ a.tmod n + n ≤ 9223372036854775807 := by omega
    have hw : IntKind.i64.wrap (a.tmod n + n) = a.tmod n + n := IntWalk.i64_in _ (by omega)
    replace hk := hide hk
    replace hw := hide hw
    clear h2 h3
    go_enter Try.func7, Try.ntmps7
    go_wp2
    go_ret
    refine ⟨?_, rfl⟩
    simp only [Ending.returned.injEq]
    rw [← (unhide hk)]
    simp
  · rw [if_neg h] at hk
    replace hk := hide hk
    clear h2 h3
    go_enter Try.func7, Try.ntmps7
    go_wp2
    go_ret
    exact ⟨by rw [← (unhide hk)]; rfl, rfl⟩
theorem w14_lt (a n : Int) (ha : I64 a) (hn : 1 ≤ n) (hn2 : n ≤ 4611686018427387904) : ∃ k : Nat, (k : Int) < n ∧ ∀ w, Calls Try.prog 7 #[.int .i64 a, .int .i64 n] w fun e w' => e = .returned (.int .i64 (k : Int)) ∧ w = w' := by
  have h1 := Int.emod_nonneg a (b := n) (by omega)
  have h2 := Int.emod_lt_of_pos a (b := n) (by omega)
  refine ⟨(a % n).toNat, by omega, fun w => ?_⟩
  rw [show (((a % n).toNat : Nat) : Int) = a % n from by omega]
  exact w14_any a n w ha hn hn2
/-! ### how many -/
def cntP (i : Nat) (ps : List Pl) : Nat := ps.countP fun p => decide (p.su = (i : Int))
def cntL (m : Nat) (ps : List Pl) : List Int := (List.range m).map fun i => (cntP i ps : Int)
def IntA (xs : List Int) : List (Array Value) := xs.map fun x => #[Value.int .i64 x]
theorem cntL_len (m : Nat) (ps : List Pl) : (cntL m ps).length = m := by simp [cntL]
theorem cntP_snoc (i : Nat) (ps : List Pl) (p : Pl) : cntP i (ps ++ [p]) = cntP i ps + (if p.su = (i : Int) then 1 else 0) := by
  unfold cntP
  rw [List.countP_append, List.countP_singleton]
  by_cases h : p.su = (i : Int) <;> simp [h]
theorem cntL_set (m k : Nat) (ps : List Pl) (p : Pl) (hk : k < m) (hp : p.su = (k : Int)) : cntL m (ps ++ [p]) = (cntL m ps).set k ((cntP k ps : Int) + 1) :=
  set_map m k _ _ _ hk (by rw [cntP_snoc, if_pos hp]; simp) (fun j hj => by rw [cntP_snoc, if_neg (fun h => hj (by omega))]; simp)
theorem cntL_keep (m : Nat) (ps : List Pl) (p : Pl) (hp : ∀ k : Nat, k < m → p.su ≠ (k : Int)) : cntL m (ps ++ [p]) = cntL m ps :=
  List.map_congr_left (fun j hj => by rw [cntP_snoc, if_neg (hp j (List.mem_range.1 hj))]; simp)
theorem cntP_le (i : Nat) (ps : List Pl) : cntP i ps ≤ ps.length := List.countP_le_length
set_option maxRecDepth 100000 in
set_option maxHeartbeats 4000000 in
theorem in_any (A : Option Addr) (c m : Nat) (ps : List Pl) (w : World) (hm : m ≤ 255) (hl : ps.length ≤ 1000000) (hs : Sl w 0 w.heap.size 3 A (ps.map Pl.arr)) :
    Calls Try.prog 10 #[.slice A ps.length c, .int .i64 m] w fun x w' => x = .returned (.slice (some ⟨w.heap.size, 0, none⟩) m m) ∧ Arr w' w.heap.size 3 1 (IntA (cntL m ps)) ∧ Below w.heap.size w w' := by
  have hmI : 0 ≤ (m : Int) ∧ (m : Int) ≤ 255 := by omega
  have hmk := make_int m (by omega)
  go_enter Try.func10, Try.ntmps10
  go_wp2_with fail
  clear hmk
  have h0 : cntL m [] = List.replicate m 0 := by unfold cntL; exact (map_const _ (0 : Int) (List.range m) (fun x _ => rfl)).trans (by rw [List.length_range])
  have hA0 : Arr (w.alloc (.cells (madeCells #[.int .i64 0] m) 3)) w.heap.size 3 1 (List.replicate m #[.int .i64 0]) := by simpa using Arr.made w 3 m #[.int .i64 0] (by decide)
  have hb0 : Below w.heap.size w (w.alloc (.cells (madeCells #[.int .i64 0] m) 3)) := (Below.refl _ _).alloc (Nat.le_refl _) _
  go_loopw [18] (fun s18 wr => ∃ j : Nat, j ≤ ps.length ∧ s18 = .int .i64 j ∧ Arr wr w.heap.size 3 1 (IntA (cntL m (ps.take j))) ∧ Below w.heap.size w wr) (fun s18 _ => ps.length - (intOf s18).toNat)
  case atStart =>
    refine ⟨0, by omega, rfl, ?_, hb0⟩
    rw [List.take_zero, h0]
    unfold IntA
    rw [List.map_replicate]
    exact hA0
  case round =>
    clear hA0 hb0 h0
    obtain ⟨j, hj, rfl, hA, hb⟩ := hrel
    have hz := hb.size
    by_cases hlt : j < ps.length
    · have hltI : (j : Int) < ps.length := by omega
      obtain ⟨b, o, rfl, _, hbl, hr⟩ := hs.at_ (k := j) (by simpa using hlt)
      simp only [List.getElem_map] at hr
      have hr2 := (rd_below hb hbl _ _).trans hr
      obtain ⟨X, hX⟩ : ∃ X, X = ps[j] := ⟨_, rfl⟩
      have htk : ps.take (j + 1) = ps.take j ++ [X] := by rw [hX, List.take_succ_eq_append_getElem hlt]
      rw [← hX] at hr2
      have c0 : wr.cell? ⟨b, o + j * 3, none⟩ = some (.int .i64 X.su) := rd_cell hr2 0 (by omega)
      have c1 : wr.cell? ⟨b, o + j * 3 + 1, none⟩ = some (.int .i64 X.ro) := rd_cell hr2 1 (by omega)
      have c2 : wr.cell? ⟨b, o + j * 3 + 2, none⟩ = some (.int .i64 X.sl) := rd_cell hr2 2 (by omega)
      have hlz := hA.lt
      clear hr hX hr2
      replace htk := hide htk
      by_cases hin : 0 ≤ X.su ∧ X.su < m
      · obtain ⟨h1, h2⟩ := hin
        obtain ⟨k, hk⟩ : ∃ k : Nat, X.su = k := ⟨X.su.toNat, by omega⟩
        have hkm : k < m := by omega
        have hset := cntL_set m k (ps.take j) X hkm hk
        have hkc : k < (IntA (cntL m (ps.take j))).length := by simp [IntA, cntL_len]; exact hkm
        have hce := hA.cell hkc (m := 0) (by omega)
        have hA2 := hA.setCell hkc (m := 0) (by omega)
        have hC := cntP_le k (ps.take j)
        rw [List.length_take] at hC
        obtain ⟨C, hCe⟩ : ∃ C : Int, C = (cntP k (ps.take j) : Int) := ⟨_, rfl⟩
        rw [← hCe] at hset
        have hCb : 0 ≤ C ∧ C ≤ 1000000 := by omega
        have hcell : wr.cell? ⟨w.heap.size, k, none⟩ = some (.int .i64 C) := by
          rw [hCe]
          simp [IntA, cntL] at hce
          exact hce
        have hfr : wr.frozen? ⟨w.heap.size, k, none⟩ = false := hA.frozen _
        rw [hk] at c0
        have hk0 : 0 ≤ (k : Int) := by omega
        have hkI : (k : Int) < m := by omega
        have hel : (IntA (cntL m (ps.take j)))[k].setIfInBounds 0 (.int .i64 (C + 1)) = #[.int .i64 (C + 1)] := by simp [IntA]
        have hA3 : Arr (wr.setCell ⟨w.heap.size, k, none⟩ (.int .i64 (C + 1))) w.heap.size 3 1 (IntA (cntL m (ps.take (j + 1)))) := by
          have := hA2 (.int .i64 (C + 1))
          rw [Nat.mul_one, Nat.add_zero, hel] at this
          rw [unhide htk, hset]
          unfold IntA at this ⊢
          rw [List.map_set]
          exact this
        replace hel := hide hel
        clear hA2 hce hset hCe hk hC h1 h2
        go_wp2_with fail
        go_roundw
        case rel => exact ⟨j + 1, by omega, by go_num, hA3.mv (Below.heap_alloc _ _ _ hA3.lt), (hb.setCell (p := ⟨w.heap.size, k, none⟩) (Nat.le_refl _) _).alloc (by rw [size_set']; exact hz) _⟩
        case measure => simp [intOf]; omega
      · have hkeep := cntL_keep m (ps.take j) X (fun k hk e => hin ⟨by omega, by omega⟩)
        have hA3 : Arr (wr.alloc (Obj.cells #[.int .i64 X.su, .int .i64 X.ro, .int .i64 X.sl] 34)) w.heap.size 3 1 (IntA (cntL m (ps.take (j + 1)))) := by
          rw [unhide htk, hkeep]
          exact hA.mv (Below.heap_alloc _ _ _ hlz)
        clear hkeep
        by_cases h1 : 0 ≤ X.su
        · have h2 : ¬ X.su < m := fun h => hin ⟨h1, h⟩
          go_wp2_with fail
          go_roundw
          case rel => exact ⟨j + 1, by omega, by go_num, hA3, hb.alloc hz _⟩
          case measure => simp [intOf]; omega
        · go_wp2_with fail
          go_roundw
          case rel => exact ⟨j + 1, by omega, by go_num, hA3, hb.alloc hz _⟩
          case measure => simp [intOf]; omega
    · obtain rfl : j = ps.length := by omega
      rw [List.take_length] at hA
      go_wp2_with fail
      go_ret
      exact ⟨rfl, hA, hb⟩
set_option maxRecDepth 100000 in
set_option maxHeartbeats 1000000 in
theorem known14 (w : World) : Calls Try.prog 6 #[] w fun x w' => x = .returned (.bool true) ∧ Below w.heap.size w w' := by
  have hcon : Calls Try.prog 9 #[.slice none 0 0, .int .i64 1] w _ := of_ok none 0 [] 1 w (by omega) ⟨by simp, fun s hs => by simp at hs⟩ (by simp) ⟨Sl.nil, fun s hs => by simp at hs⟩
  go_enter Try.func6, Try.ntmps6
  go_wp2_with fail
  (with_reducible refine hcon.mono ?_)
  rintro e w1 ⟨⟨bo, bp, rfl, ho, hp⟩, hb⟩
  obtain ⟨b, o, e, _, _, hr⟩ := hp.at_ (k := 0) (by simp [plL_len])
  injection e with e
  injection e with e1 e2
  subst e1 e2
  have hc : w1.cell? ⟨bp, 0, none⟩ = some (.int .i64 (-1)) := rd_cell hr 0 (by omega)
  clear hr ho hp hcon
  go_wp2_with fail
  go_ret
  exact ⟨rfl, hb⟩
end Go.Proofs.Ytnihgfhaenpfkaa.Base
