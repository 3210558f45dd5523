/-
  Contracts that the laws of chapter 17 share.
-/
import Derived.Test.YtpblhedmfeddbaaBuf
import Derived.BigQuiet
import Derived.Deep.QuietTactic
namespace Go.Proofs.Ytpblhedmfeddbaa.Base
set_option linter.unusedSimpArgs false
set_option linter.unusedVariables false
open Go.RowKit
attribute [local go_sem] Ent.arr0 Ent.arr1 Ent.arr2 Ent.set1 Ent.set2 Ent.arr_size Ent.okW Ent.lit run_ldV_ent run_stV_ent ldR_some stR_true rd_new_whole rd_alloc canW_new canW_alloc wr_new wr_alloc rd_drew rd_drewN canW_drew canW_drewN run_bsS_ent run_bsS_ent0 run_eqI_ent rd_setCell rd_setCell_same canW_setCell' Option.map_some cell_wr_other rd_wr_same rd_wr_other
attribute [local go_sem ↓] ldV_ent stV_ent bsS_ent eqI_ent

theorem add_none (c : Nat) (next : Int) (w : World) (e : Ent) (h0 : 0 ≤ next) (h1 : next < 9223372036854775807) :
    Calls Try.prog 13 #[.agg #[.slice none 0 c, .int .i64 next], .agg e.arr] w fun e' w' =>
      (∃ A' c', e' = .returned (.agg #[.slice A' 1 c', .int .i64 (next + 1)]) ∧ 1 ≤ c' ∧ Sl w' w.heap.size w'.heap.size 19 A' [({ e with s := next } : Ent).arr]) ∧ Below w.heap.size w w' := by
  have := add_any none c next w [] e (by simp) (by simp) Sl.nil h0 h1
  simpa using this

set_option maxHeartbeats 400000 in
theorem known_any (w : World) : Calls Try.prog 10 #[] w fun e w' => e = .returned (.bool true) ∧ Below w.heap.size w w' := by
  go_enter Try.func10, Try.ntmps10
  go_wp2_with fail
  refine (new_any _ _).mono ?_
  rintro e w1 ⟨rfl, hb1⟩
  go_wp2_with fail
  refine (add_none 0 5 w1 (⟨1, 1, 0, fun _ => 0⟩ : Ent) (by omega) (by omega)).mono ?_
  rintro e w2 ⟨⟨A', c', rfl, hc', hs⟩, hb2⟩
  obtain ⟨b, o, rfl, hL, hlt, hr⟩ := hs.at_ (k := 0) (by simp)
  have hc := rd_cell hr 2 (by omega)
  simp only [List.getElem_cons_zero, Ent.arr2, Nat.zero_mul, Nat.add_zero] at hc hr
  go_wp2
  go_ret
  exact ⟨rfl, ((hb1.trans (hb2.mono hb1.size)).alloc (by have := hb1.size; have := hb2.size; omega) _)⟩

theorem add_n (A : Option Addr) (n c : Nat) (next : Int) (w : World) (es : List Ent) (e : Ent) (he : es.length = n) (hc : n ≤ c) (hn : n ≤ 1000000) (hs : Sl w 0 w.heap.size 19 A (es.map Ent.arr)) (h0 : 0 ≤ next) (h1 : next < 9223372036854775807) :
    Calls Try.prog 13 #[.agg #[.slice A n c, .int .i64 next], .agg e.arr] w fun e' w' =>
      (∃ A' c', e' = .returned (.agg #[.slice A' (n + 1) c', .int .i64 (next + 1)]) ∧ n + 1 ≤ c' ∧ Sl w' w.heap.size w'.heap.size 19 A' ((es ++ [{ e with s := next }]).map Ent.arr)) ∧ Below w.heap.size w w' := by
  subst he
  exact add_any A c next w es e hc hn hs h0 h1
theorem find_n (A : Option Addr) (n c : Nat) (next lba : Int) (w : World) (es : List Ent) (he : es.length = n) (hn : n ≤ 1000000) (hs : Sl w 0 w.heap.size 19 A (es.map Ent.arr)) :
    Calls Try.prog 14 #[.agg #[.slice A n c, .int .i64 next], .int .i64 lba] w fun e w' =>
      e = .returned (.tuple #[.agg (findE es lba).1.arr, .bool (findE es lba).2]) ∧ Below w.heap.size w w' := by
  subst he
  exact find_any A c next lba w es hn hs


theorem take_n (A : Option Addr) (N c : Nat) (next n : Int) (w : World) (es : List Ent) (hN : es.length = N) (hc : N ≤ c) (hn : N ≤ 1000000) (hs : Sl w 0 w.heap.size 19 A (es.map Ent.arr)) (m : Nat) (hm : (m : Int) = min (max n 0) N) :
    Calls Try.prog 15 #[.agg #[.slice A N c, .int .i64 next], .int .i64 n] w fun e' w' =>
      (∃ A' A2, e' = .returned (.tuple #[.agg #[.slice A' (N - m) (N - m), .int .i64 next], .slice A2 m m]) ∧
         Sl w' w.heap.size w'.heap.size 19 A' ((es.drop m).map Ent.arr) ∧ Sl w' w.heap.size w'.heap.size 19 A2 ((es.take m).map Ent.arr)) ∧ Below w.heap.size w w' := by
  subst hN
  exact take_any A c next n w es hc hn hs m hm

set_option maxHeartbeats 400000 in
theorem sameEntries_eq (A A2 : Option Addr) (n c c2 : Nat) (w : World) (es : List Ent) (hn : es.length = n) (hn2 : n ≤ 1000000) (hs : Sl w 0 w.heap.size 19 A (es.map Ent.arr)) (hs2 : Sl w 0 w.heap.size 19 A2 (es.map Ent.arr)) :
    Calls Try.prog 16 #[.slice A n c, .slice A2 n c2] w fun e w' => e = .returned (.bool true) ∧ Below w.heap.size w w' := by
  go_enter Try.func16, Try.ntmps16
  go_wp2
  go_loopw [5] (fun i wr => ∃ k : Nat, k ≤ n ∧ i = .int .i64 k ∧ Below w.heap.size w wr) (fun i _ => n - (intOf i).toNat)
  case atStart => exact ⟨0, Nat.zero_le _, rfl, Below.refl _ _⟩
  case round =>
    obtain ⟨k, hk, rfl, hb⟩ := hrel
    by_cases hkl : k < n
    · obtain ⟨b, o, rfl, _, hlt, hr⟩ := hs.at_ (k := k) (by simp; omega)
      obtain ⟨b2, o2, rfl, _, hlt2, hr2⟩ := hs2.at_ (k := k) (by simp; omega)
      have q1 := (rd_below hb hlt _ _).trans hr
      have q2 := (rd_below hb hlt2 _ _).trans hr2
      simp only [List.getElem_map] at q1 q2
      have i1 : (0 : Int) ≤ (k : Int) := by omega
      have i2 : (k : Int) < (n : Int) := by omega
      replace hn := hide hn
      clear hr hr2
      go_wp2_with fail
      go_quiet (fail)
      go_wp2
      exact ⟨⟨k + 1, by omega, by simp, ⟨hb.os, hb.tape, hb.output, hb.size, hb.block⟩⟩, by simp [intOf]; omega⟩
    · obtain rfl : k = n := by omega
      go_wp2
      go_ret
      exact ⟨rfl, hb⟩

theorem sameEntries_eq2 (A A2 : Option Addr) (n n2 c c2 : Nat) (w : World) (es : List Ent) (hn : es.length = n) (hn' : es.length = n2) (hn2 : n ≤ 1000000) (hs : Sl w 0 w.heap.size 19 A (es.map Ent.arr)) (hs2 : Sl w 0 w.heap.size 19 A2 (es.map Ent.arr)) :
    Calls Try.prog 16 #[.slice A n c, .slice A2 n2 c2] w fun e w' => e = .returned (.bool true) ∧ Below w.heap.size w w' := by
  obtain rfl : n = n2 := by omega
  exact sameEntries_eq A A2 n c c2 w es hn hn2 hs hs2
theorem info_buf2 : (Try.prog.info? 41).map (·.size) = some 2 := by kernel_rfl
set_option maxHeartbeats 400000 in
theorem of_any (n : Int) (A : Option Addr) (l c : Nat) (w : World) :
    Calls Try.prog 18 #[.agg #[.slice A l c, .int .i64 n]] w fun e w' => e = .returned (.agg #[.slice A l c, .int .i64 n]) ∧ Below w.heap.size w w' := by
  go_enter Try.func18, Try.ntmps18
  go_wp2
  refine bodyPost_ret (results_c Try.results18 Try.underlying41 rfl info_buf2 (cs := #[.slice A l c, .int .i64 n]) rfl (rd_new_whole _ _ _ _ _ _ (by simp) rfl)) rfl ?_
  exact ⟨rfl, ((Below.refl _ w).alloc (Nat.le_refl _) _).alloc (by simp) _⟩

set_option maxHeartbeats 400000 in
theorem same_eq (A A2 : Option Addr) (n c c2 : Nat) (next : Int) (w : World) (es : List Ent) (hn : es.length = n) (hn2 : n ≤ 1000000) (hs : Sl w 0 w.heap.size 19 A (es.map Ent.arr)) (hs2 : Sl w 0 w.heap.size 19 A2 (es.map Ent.arr)) :
    Calls Try.prog 17 #[.agg #[.slice A n c, .int .i64 next], .agg #[.slice A2 n c2, .int .i64 next]] w fun e w' => e = .returned (.bool true) ∧ Below w.heap.size w w' := by
  go_enter Try.func17, Try.ntmps17
  go_wp2_with fail
  refine (sameEntries_eq A A2 n c c2 _ es hn hn2 (((hs.alloc (Nat.le_refl _) _).alloc (by simp) _).more (by simp; omega)) (((hs2.alloc (Nat.le_refl _) _).alloc (by simp) _).more (by simp; omega))).mono ?_
  rintro e w1 ⟨rfl, hb⟩
  go_wp2
  go_ret
  exact ⟨rfl, (((Below.refl _ w).alloc (Nat.le_refl _) _).alloc (by simp) _).trans (hb.mono (by simp; omega))⟩
end Go.Proofs.Ytpblhedmfeddbaa.Base
