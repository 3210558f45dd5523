/-
  slices.Sorted(slices.Values(lost)) of at most two numbers.
-/
import Derived.Test.YtdbnladpogpiiaaPRqx0
import Derived.Test.YtdbnladpogpiiaaRng
import Derived.Test.YtdbnladpogpiiaaFx
import Derived.StillTailTactics
import Derived.RegionIn
import Derived.Stop.RegionWithIn
import Derived.Lib.Hide
namespace Go.Proofs.Ytdbnladpogpiiaa.So
open Go.RowKit Go.Proofs.YtdbnladpogpiiaaW.PrintWords
open Go.Proofs.Ytdbnladpogpiiaa.Base (IterC range_c)
set_option linter.unusedSimpArgs false
set_option linter.unusedVariables false
theorem wide_fn (f : FuncId) : Fence.wide.fn f = True := rfl
theorem wide_depth : Fence.wide.depth = none := rfl
attribute [local go_sem] wide_fn wide_depth Oper.semAt_some

/-- only draws -/
def StD (A B : World) : Prop := ∃ n, B = A.drewN n
/-- below n₀ all but block Bx is as it was -/
structure KpE (n₀ Bx : Nat) (A B : World) : Prop where
  size : A.heap.size ≤ B.heap.size
  block : ∀ k, k < n₀ → k ≠ Bx → B.heap[k]? = A.heap[k]?
theorem KpE.refl {n₀ Bx : Nat} (A : World) : KpE n₀ Bx A A := ⟨Nat.le_refl _, fun _ _ _ => rfl⟩
theorem KpE.trans {n₀ Bx : Nat} {A B C : World} (h : KpE n₀ Bx A B) (k : KpE n₀ Bx B C) : KpE n₀ Bx A C := ⟨Nat.le_trans h.size k.size, fun i h1 h2 => (k.block i h1 h2).trans (h.block i h1 h2)⟩
/-- what lies in these blocks reads as it read -/
theorem at_kept {w W : World} {a : Addr} {v : Value} {n₀ Bx : Nat} (h : KpE n₀ Bx w W) (hc : w.cell? a = some v) (h1 : a.block < n₀) (h2 : a.block ≠ Bx) : W.cell? a = some v := by
  rw [World.cell?_of_block (h.block a.block h1 h2)]; exact hc

set_option maxRecDepth 100000 in
set_option maxHeartbeats 1000000 in
theorem values1_c (Bs n₀ Bx : Nat) (hBs : Bs < n₀) (hBx : Bs ≠ Bx) (A : Option Addr) (c : Nat) (xs : List Int) (hm : xs.length ≤ 1000000) (w : World) (fs : w.cell? ⟨Bs, 0, none⟩ = some (.slice A xs.length c)) (hr : Kd.C (Kd.int .i64) w A xs.length xs)
    (hA : 0 < xs.length → ∀ ad, A = some ad → ad.block < n₀ ∧ ad.block ≠ Bx) (hn : n₀ ≤ w.heap.size) :
    IterC Try.prog 46 #[.pointer (some ⟨Bs, 0, none⟩)] (fun x : Int => #[.int .i64 x]) StD (KpE n₀ Bx) (fun ys => ys = xs) (fun pre => pre <+: xs) xs.length w := by
  intro l J Jx W hbW hJ hJx hY h0
  have k0 : KpE n₀ Bx w W := ⟨hbW.size, fun k h1 _ => hbW.block k (by omega)⟩
  have HR := Lib.hid hr
  have HA := Lib.hid hA
  have fs1 := at_kept k0 fs hBs hBx
  clear hr hA
  refine callsIn_of_wp Try.func46 rfl trivial ?_ rfl
  simp only [Try.ntmps46, List.size_toArray, List.length_cons, List.length_nil, Nat.reduceAdd, Nat.reduceSub, Array.replicate_succ, Array.replicate_zero, List.push_toArray, List.append_toArray, List.nil_append, List.cons_append]
  gi_wp2
  gi_loopw [7] (fun i wr => ∃ j : Nat, i = .int .i64 j ∧ j ≤ xs.length ∧ J (xs.take j) wr ∧ KpE n₀ Bx w wr) (fun i _ => xs.length - (intOf i).toNat)
  case atStart => exact ⟨0, rfl, Nat.zero_le _, by simpa using h0, k0⟩
  case round =>
    obtain ⟨j, rfl, hj, hJp, kp⟩ := hrel
    by_cases hjl : j < xs.length
    · obtain ⟨ad, e, hx⟩ := Kd.at_int HR.out (j : Int) (by omega) (by omega)
      subst e
      have hA2 := HA.out (by omega) ad rfl
      have hx2 : wr.cell? (ad.add j) = some (.int .i64 xs[j]) := by
        have h3 := at_kept (a := ad.add (j : Int).toNat) kp hx (by rw [add_block]; exact hA2.1) (by rw [add_block]; exact hA2.2)
        have h4 : Go.Proofs.YtdbnladpogpiiaaW.PrintWords.rd xs (j : Int) = xs[j] := by unfold Go.Proofs.YtdbnladpogpiiaaW.PrintWords.rd; simp [hjl]
        rw [h4] at h3
        simpa using h3
      have htk : xs.take (j + 1) = xs.take j ++ [xs[j]] := List.take_succ_eq_append_getElem hjl
      have hlen : (xs.take j).length = j := by simp; omega
      have HTK := Lib.hid htk
      have hpre : (xs.take j ++ [xs[j]]) <+: xs := by rw [← htk]; exact List.take_prefix _ _
      obtain ⟨fn, tmps, assign, body, hy, hR⟩ := hY (xs.take j) xs[j] wr hJp (by rw [hlen]; exact hjl) hpre
      clear htk hx hlen
      gi_wp2
      refine hR.mono ?_
      rintro e W3 (⟨rfl, hJ3, hk3⟩ | ⟨rfl, hJx3⟩)
      · gi_wp2
        go_roundw
        case rel => exact ⟨j + 1, by simp, by omega, by rw [HTK.out]; exact hJ3, kp.trans hk3⟩
        case measure => simp [intOf]; omega
      · gi_wp2
        refine bodyPost_ret (results_none rfl _ _ _) rfl ?_
        exact ⟨⟨_, rfl⟩, .inr ⟨_, hpre, hJx3⟩⟩
    · obtain rfl : j = xs.length := by omega
      gi_wp2
      go_end0
      refine ⟨⟨_, rfl⟩, .inl ⟨_, rfl, ?_⟩⟩
      rw [List.take_length] at hJp
      exact hJp

theorem info_int : (Try.prog.info? 3).map (fun i => (i.zero, i.size, i.bytes)) = some (some (.int .i64 0), 1, 8) := by kernel_rfl
set_option maxRecDepth 100000 in
set_option maxHeartbeats 2000000 in
theorem appendSeq_any (Bs : Nat) (A : Option Addr) (c : Nat) (xs : List Int) (hm : xs.length ≤ 1000000) (w : World) (hBs : Bs < w.heap.size) (fs : w.cell? ⟨Bs, 0, none⟩ = some (.slice A xs.length c)) (hr : Kd.C (Kd.int .i64) w A xs.length xs) :
    Calls Try.prog 52 #[.slice none 0 0, .func (.func 46) #[] #[.pointer (some ⟨Bs, 0, none⟩)]] w fun e w' =>
      ∃ v, e = .returned v ∧ w'.ownsRow w.heap.size 3 1 v xs.length (xs.map (Value.int .i64)) ∧ Below w.heap.size w w' := by
  obtain ⟨i0, hi, hz0, hz1, hz2⟩ := info_parts info_int
  have hA : 0 < xs.length → ∀ ad, A = some ad → ad.block < w.heap.size ∧ ad.block ≠ w.heap.size := by
    intro h0 ad e
    obtain ⟨ad', e', hx⟩ := Kd.at_int hr 0 (by omega) (by omega)
    rw [e] at e'
    cases e'
    have := World.block_lt_of_cell? w _ hx
    rw [add_block] at this
    omega
  refine (callsIn_wide (n := 0)).1 ?_
  refine callsIn_of_wp_marks Try.func52 rfl trivial ?_ rfl
  simp only [Try.ntmps52, List.size_toArray, List.length_cons, List.length_nil, Nat.reduceAdd, Nat.reduceSub, Array.replicate_succ, Array.replicate_zero, List.push_toArray, List.append_toArray, List.nil_append, List.cons_append]
  gi_wp2_with fail
  have bO := Boxed.new w 35 (.slice none 0 0)
  have hB0 : Below w.heap.size w (w.alloc (.cells #[.slice none 0 0] 35)) := (Below.refl _ w).alloc (Nat.le_refl _) _
  have hI : OwnFrom (w.alloc (.cells #[.slice none 0 0] 35)).heap.size (fun (pre : List Int) W => (∃ v, Boxed W w.heap.size 35 v ∧ W.ownsRow w.heap.size 3 1 v pre.length (pre.map (Value.int .i64)) ∧ (v = .slice none 0 0 ↔ pre = [])) ∧ Below w.heap.size w W) :=
    OwnFrom.and (Own.from (holdsRow_own w.heap.size w.heap.size 35 3 1 (fun pre : List Int => pre.length) (fun pre => pre.map (Value.int .i64)) (fun pre v => v = .slice none 0 0 ↔ pre = [])) _) (ownFrom_below (Nat.le_refl _) (by simp))
  refine range_c (gf := 46) (lb := #[.pointer (some ⟨Bs, 0, none⟩)]) rfl (fun _ _ => rfl)
    (values1_c Bs w.heap.size w.heap.size hBs (by omega) A c xs hm _ ((hB0.cell (p := ⟨Bs, 0, none⟩) hBs).trans fs) (Kd.C_below hr hB0) hA (by simp))
    (fun h k => h.trans k) (fun W l o o' hl h _ _ => ⟨by simp, fun k h1 h2 => World.putObj_heap_other (by simp at hl; omega)⟩) (fun A B ⟨n, e⟩ => by subst e; exact ⟨Nat.le_refl _, fun _ _ h _ => h⟩) (Below.refl _ _) (fun _ => rfl)
    _ (fun _ _ _ => False) hI (fun c pre A B row h => h.elim) ?_ (fun _ _ _ _ _ h => h) ⟨⟨_, bO, World.ownsRow_nil _ _ _ _, by simp⟩, hB0⟩ ?_ ?_ ?_
  · rintro pre A B ⟨n, rfl⟩ ⟨⟨v, hv, hrow, hnil⟩, hB⟩
    exact ⟨⟨v, hv, hrow, hnil⟩, pw_below_drewN hB n⟩
  · rintro l pre x W hi2 hlen hsp hsz
    gi_wp2_with fail
    refine ⟨KeepsOthers.refl _, KpE.refl _, fun X => _, fun A B row h hg hr => hI _ _ _ _ h hg hr, hi2, ?_⟩
    rintro W₂ ⟨⟨v, hv, hrow, hnil⟩, hB⟩ h4
    clear h4 hsz
    have hc := hv.cell
    have hlx : pre.length < xs.length := hlen
    gi_wp2_with (gi_at_builtin; refine wpListIn_append_own _ rfl _ _ 35 rfl w.heap.size 3 i0 (.int .i64 0) 1 8 Try.underlying35 hi hz0 hz1 hz2 rfl (by decide) _ _ _ rfl (hrow.alloc _) ⟨W₂.heap.size, 0, none⟩ 1 1 [.int .i64 x] rfl rfl (cell_one_new _ _ _) (by simp [Value.oneCell']) (by unfold maxLen; omega) (by omega) (by have := hB.size; simp; omega) ?_; intro v' w1 hown' hgrow _; obtain ⟨g', cap', rfl⟩ := ownsRow_succ hown'; obtain ⟨hv1, hv2, hr2, hk2, hb2⟩ := hv.appended (by decide) hrow hB.size (Nat.le_refl _) hown' hgrow; have hc1 := hv1.cell; have hf1 := hv1.frozen)
    exact ⟨hk2, ⟨hb2.size, fun k h1 _ => hb2.block k h1⟩, ⟨_, hv2, by simpa using hr2, by simp⟩, hB.trans hb2⟩
  · rintro D ys W hDl rfl ⟨⟨v, hv, hrow, hnil⟩, hB⟩ hD
    have hc := hv.cell
    gi_wp2_with fail
    refine ⟨by simp, .inl ⟨_, _, rfl, run_takeDeferred hD, ?_⟩⟩
    exact ⟨_, results_tmp rfl _ _ _, v, rfl, ownsRow_putObj hrow _ hD rfl, hB.trans (belowK_b (w := w) (Nat.le_refl _) W D _ _ (by simp at hDl; omega) hD rfl rfl)⟩
  · intro D c pre W _ _ h; exact h.elim
theorem values_any (A : Option Addr) (n c : Nat) (w : World) :
    Calls Try.prog 34 #[.slice A n c] w fun e w' => e = .returned (.func (.func 46) #[] #[.pointer (some ⟨w.heap.size, 0, none⟩)]) ∧ w' = w.alloc (.cells #[.slice A n c] 35) := by
  go_enter Try.func34, Try.ntmps34
  go_wp2
  go_ret
  exact ⟨rfl, rfl⟩
theorem collect_any (Bs : Nat) (A : Option Addr) (c : Nat) (xs : List Int) (hm : xs.length ≤ 1000000) (w : World) (hBs : Bs < w.heap.size) (fs : w.cell? ⟨Bs, 0, none⟩ = some (.slice A xs.length c)) (hr : Kd.C (Kd.int .i64) w A xs.length xs) :
    Calls Try.prog 44 #[.func (.func 46) #[] #[.pointer (some ⟨Bs, 0, none⟩)]] w fun e w' =>
      ∃ v, e = .returned v ∧ w'.ownsRow w.heap.size 3 1 v xs.length (xs.map (Value.int .i64)) ∧ Below w.heap.size w w' := by
  go_enter Try.func44, Try.ntmps44
  go_wp2_with fail
  refine (appendSeq_any Bs A c xs hm w hBs fs hr).mono ?_
  rintro e w1 ⟨v, rfl, hown, hb⟩
  have HO := Lib.hid hown
  clear hown
  go_wp2
  go_ret
  exact ⟨v, rfl, HO.out, hb⟩
end Go.Proofs.Ytdbnladpogpiiaa.So
