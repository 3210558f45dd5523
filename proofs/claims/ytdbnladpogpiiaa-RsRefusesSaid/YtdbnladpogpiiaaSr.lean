/-
  slices.Sort, slices.Sorted of at most two numbers.
-/
import Derived.Test.YtdbnladpogpiiaaSo
import Derived.Test.YtdbnladpogpiiaaPRtx1
import Derived.Handy
namespace Go.Proofs.Ytdbnladpogpiiaa.Sr
open Go.RowKit Go.Proofs.YtdbnladpogpiiaaW.PrintWords
open Go.Proofs.Ytdbnladpogpiiaa.PRt
open Go.Proofs.Ytdbnladpogpiiaa.Fld (srt)
set_option linter.unusedSimpArgs false
set_option linter.unusedVariables false
set_option maxRecDepth 100000 in
set_option maxHeartbeats 1000000 in
theorem len64_any (n : Nat) (hn : n ≤ 2) (w : World) : Calls Try.prog 67 #[.int .u64 n] w fun e w' => (∃ r : Int, e = .returned (.int .i64 r)) ∧ w' = w := by
  obtain rfl | rfl | rfl : n = 0 ∨ n = 1 ∨ n = 2 := by omega
  all_goals
    go_enter Try.func67, Try.ntmps67
    go_wp2
    go_ret
    exact ⟨⟨_, rfl⟩, rfl⟩
theorem len_any (n : Nat) (hn : n ≤ 2) (w : World) : Calls Try.prog 54 #[.int .u64 n] w fun e w' => (∃ r : Int, e = .returned (.int .i64 r)) ∧ w' = w := by
  go_enter Try.func54, Try.ntmps54
  go_wp2_with fail
  refine (len64_any n hn w).mono ?_
  rintro e w1 ⟨⟨r, rfl⟩, rfl⟩
  go_wp2
  go_ret
  exact ⟨⟨_, rfl⟩, rfl⟩
set_option maxRecDepth 100000 in
set_option maxHeartbeats 1000000 in
theorem pdq_any (k : Nat) (P0_ : Nat → Prop) (u : Value) (l0 : List Int) (m lim : Int) (r : List Int) (w0 w : World) (hB : Below w0.heap.size w0 w) (ho0 : Kd.R (Kd.int .i64) 3 w w0.heap.size P0_ u l0) (h0 : 0 ≤ m) (h2 : m ≤ 12) (h : slices_insertionSortOrdered_int.f k l0 0 m = some r) :
    Calls Try.prog 53 #[u, .int .i64 0, .int .i64 m, .int .i64 lim] w fun e w' => e = .returned (.tuple #[]) ∧ Kd.R (Kd.int .i64) 3 w' w0.heap.size (fun k_ => (P0_ k_ ∨ w.heap.size ≤ k_)) u r ∧ Below w0.heap.size w0 w' := by
  have HC := Lib.hid (slices_insertionSortOrdered_int.calls k P0_ u l0 0 m r w0 w hB ho0 h)
  clear hB ho0 h
  go_enter Try.func53, Try.ntmps53
  go_wp2_with fail
  go_loopw [1, 2] (fun a b wr => a = .int .i64 0 ∧ b = .int .i64 m ∧ wr = w) (fun _ _ _ => 0)
  case atStart => exact ⟨rfl, rfl, rfl⟩
  case round =>
    obtain ⟨rfl, rfl, rfl⟩ := hrel
    have hm : (decide (m ≤ 12)) = true := decide_eq_true h2
    have hw : wrap64 (m - 0) = m := by unfold wrap64; omega
    go_wp2_with fail
    refine HC.out.mono ?_
    rintro e w1 ⟨rfl, h1, h2, h3⟩
    go_wp2_with fail
    go_returns
    exact ⟨rfl, h1, h2⟩
theorem sort_any (k : Nat) (P0_ : Nat → Prop) (A : Option Addr) (c : Nat) (l0 : List Int) (r : List Int) (w0 w : World) (hB : Below w0.heap.size w0 w) (ho0 : Kd.R (Kd.int .i64) 3 w w0.heap.size P0_ (.slice A l0.length c) l0) (h2 : l0.length ≤ 2) (h : slices_insertionSortOrdered_int.f k l0 0 l0.length = some r) :
    Calls Try.prog 45 #[.slice A l0.length c] w fun e w' => e = .returned (.tuple #[]) ∧ Kd.R (Kd.int .i64) 3 w' w0.heap.size (fun k_ => (P0_ k_ ∨ w.heap.size ≤ k_)) (.slice A l0.length c) r ∧ Below w0.heap.size w0 w' := by
  have HC := Lib.hid (fun lim => pdq_any k P0_ (.slice A l0.length c) l0 l0.length lim r w0 w hB ho0 (by omega) (by omega) h)
  have HL := Lib.hid (len_any l0.length h2)
  clear hB ho0 h
  go_enter Try.func45, Try.ntmps45
  go_wp2_with fail
  refine (HL.out _).mono ?_
  rintro e w1 ⟨⟨q, rfl⟩, rfl⟩
  go_wp2_with fail
  refine (HC.out _).mono ?_
  rintro e w1 ⟨rfl, h1, h2⟩
  go_wp2_with fail
  go_returns
  exact ⟨rfl, h1, h2⟩
theorem ins_two (xs : List Int) (h : xs.length ≤ 2) : ∃ k, slices_insertionSortOrdered_int.f k xs 0 xs.length = some (srt xs) := by
  refine ⟨4, ?_⟩
  match xs, h with
  | [], _ => simp [slices_insertionSortOrdered_int.f, slices_insertionSortOrdered_int.l0, srt, wrap64]
  | [a], _ => simp [slices_insertionSortOrdered_int.f, slices_insertionSortOrdered_int.l0, srt, wrap64]
  | [a, b], _ =>
    by_cases hab : b < a
    · have : ¬ a ≤ b := by omega
      simp [slices_insertionSortOrdered_int.f, slices_insertionSortOrdered_int.l0, slices_insertionSortOrdered_int.l1, srt, wrap64, cmp_Less_int.f, cmp_isNaN_int.f, rd, hab, this]
    · have : a ≤ b := by omega
      simp [slices_insertionSortOrdered_int.f, slices_insertionSortOrdered_int.l0, slices_insertionSortOrdered_int.l1, srt, wrap64, cmp_Less_int.f, cmp_isNaN_int.f, rd, hab, this]
set_option maxRecDepth 100000 in
set_option maxHeartbeats 1000000 in
theorem sorted_any (Bs : Nat) (A : Option Addr) (c : Nat) (xs : List Int) (hm : xs.length ≤ 2) (w : World) (hBs : Bs < w.heap.size) (fs : w.cell? ⟨Bs, 0, none⟩ = some (.slice A xs.length c)) (hr : Kd.C (Kd.int .i64) w A xs.length xs) :
    Calls Try.prog 33 #[.func (.func 46) #[] #[.pointer (some ⟨Bs, 0, none⟩)]] w fun e w' =>
      ∃ v, e = .returned v ∧ Kd.R (Kd.int .i64) 3 w' w.heap.size (fun _ => True) v (srt xs) ∧ Below w.heap.size w w' := by
  obtain ⟨k, hk⟩ := ins_two xs hm
  have HK := Lib.hid hk
  clear hk
  go_enter Try.func33, Try.ntmps33
  go_wp2_with fail
  refine (Go.Proofs.Ytdbnladpogpiiaa.So.collect_any Bs A c xs (by omega) w hBs fs hr).mono ?_
  rintro e w1 ⟨v, rfl, hown, hb⟩
  have hR : Kd.R (Kd.int .i64) 3 w1 w.heap.size (fun _ => True) v xs := Kd.R_of_own (by unfold encs; exact hown) (fun _ _ => trivial)
  obtain ⟨A1, c1, rfl⟩ := Kd.R_slice hR
  have HS := Lib.hid (sort_any k (fun _ => True) A1 c1 xs (srt xs) w w1 hb hR hm HK.out)
  clear hown hR
  go_wp2_with fail
  refine HS.out.mono ?_
  rintro e w2 ⟨rfl, h1, h2⟩
  have H1 := Lib.hid h1
  clear h1
  go_wp2_with fail
  go_ret
  exact ⟨_, rfl, Kd.R_mono H1.out (fun _ _ => trivial), h2⟩
end Go.Proofs.Ytdbnladpogpiiaa.Sr
