/-
  rs.kept, rs.may.
-/
import Derived.Test.YtdbnladpogpiiaaSo
import Derived.Test.YtdbnladpogpiiaaPl
import Derived.Test.YtdbnladpogpiiaaPRqx5
namespace Go.Proofs.Ytdbnladpogpiiaa.Kp
open Go.RowKit Go.Proofs.YtdbnladpogpiiaaW.PrintWords
open Go.Proofs.Ytdbnladpogpiiaa.Base (IterC range_c)
open Go.Proofs.Ytdbnladpogpiiaa.So Go.Proofs.Ytdbnladpogpiiaa.PRq Go.Proofs.Ytdbnladpogpiiaa.Fld Go.Proofs.Ytdbnladpogpiiaa.Pl
set_option linter.unusedSimpArgs false
set_option linter.unusedVariables false
theorem wide_fn (f : FuncId) : Fence.wide.fn f = True := rfl
theorem wide_depth : Fence.wide.depth = none := rfl
attribute [local go_sem] wide_fn wide_depth Oper.semAt_some

/-! ### slices.Contains -/
theorem index_l0 (L : List Int) (a : Int) (hL : L.length ≤ 1000000) : ∀ d i : Nat, d = L.length - i → i ≤ L.length → ∃ r : Int, Ev (fun k => slices_Index_int_int.l0 k L a (L.length : Int) (i : Int)) r ∧ decide (r ≥ 0) = (L.drop i).contains a
  | 0, i, hd, hi => by
    refine ⟨-1, Ev.step (f := fun _ => some (-1)) (fun k => ?_) (Ev.now _), ?_⟩
    · rw [slices_Index_int_int.l0, if_neg (by omega)]
    · rw [List.drop_eq_nil_of_le (by omega)]; rfl
  | d + 1, i, hd, hi => by
    have hiL : i < L.length := by omega
    have hdr : L.drop i = L[i] :: L.drop (i + 1) := List.drop_eq_getElem_cons hiL
    have hrd : rd L (i : Int) = L[i] := by unfold rd; simp [hiL]
    by_cases h : a = L[i]
    · refine ⟨(i : Int), Ev.step (f := fun _ => some (i : Int)) (fun k => ?_) (Ev.now _), ?_⟩
      · rw [slices_Index_int_int.l0, if_pos (by omega), if_pos (by omega), if_pos (by omega), hrd, if_pos h]
      · rw [hdr, List.contains_cons, h]
        simp
    · obtain ⟨r, h1, h2⟩ := index_l0 L a hL d (i + 1) (by omega) (by omega)
      refine ⟨r, Ev.step (f := fun k => slices_Index_int_int.l0 k L a (L.length : Int) ((i + 1 : Nat) : Int)) (fun k => ?_) h1, ?_⟩
      · rw [slices_Index_int_int.l0, if_pos (by omega), if_pos (by omega), if_pos (by omega), hrd, if_neg h, w64 (by omega) (by omega)]; rfl
      · rw [h2, hdr, List.contains_cons]
        have : (a == L[i]) = false := by rw [beq_eq_false_iff_ne]; exact h
        rw [this, Bool.false_or]
theorem contains_ev (L : List Int) (a : Int) (hL : L.length ≤ 1000000) : Ev (fun k => slices_Contains_int_int.f k L a) (L.contains a) := by
  obtain ⟨r, h1, h2⟩ := index_l0 L a hL L.length 0 (by omega) (by omega)
  rw [List.drop_zero] at h2
  rw [← h2]
  exact Ev.bind (g := fun k => slices_Index_int_int.f k L a) (f := fun _ t => some (decide (t ≥ 0))) h1 (Ev.now _)
theorem contains_any (A : Option Addr) (n c : Nat) (L : List Int) (a : Int) (w : World) (hn : n = L.length) (hL : L.length ≤ 1000000) (hr : Kd.C (Kd.int .i64) w A n L) (hc : n ≤ c) :
    Calls Try.prog 42 #[.slice A n c, .int .i64 a] w fun e w' => e = .returned (.bool (L.contains a)) ∧ ∃ m, w' = w.drewN m := by
  subst hn
  obtain ⟨k, hk⟩ := (contains_ev L a hL).rounds
  refine (slices_Contains_int_int.calls k A c L a _ w hr hc hk).mono ?_
  rintro e w' ⟨rfl, ⟨m, rfl⟩⟩
  exact ⟨rfl, m, rfl⟩

/-! ### the rows that are not lost, by number -/
def idx (n : Nat) (lost : List Int) : List Nat := (List.range n).filter fun i => !lost.contains (i : Int)
theorem zipIdx_range (L : List (List Int)) : L.zipIdx = (List.range L.length).map fun i => (row L i, i) := by
  apply List.ext_getElem (by simp)
  intro i h1 h2
  simp at h1
  simp [row, h1]
theorem kept_idx (L : List (List Int)) (lost : List Int) : kept L lost = (idx L.length lost).map (row L) := by
  unfold kept idx
  rw [zipIdx_range, List.filter_map, List.map_map]
  rfl
theorem idx_lt {n : Nat} {lost : List Int} {i : Nat} (h : i ∈ idx n lost) : i < n := by
  unfold idx at h
  rw [List.mem_filter] at h
  simpa using h.1
theorem idx_len (n : Nat) (lost : List Int) : (idx n lost).length ≤ n := by
  unfold idx
  have := List.length_filter_le (fun i : Nat => !lost.contains (i : Int)) (List.range n)
  simpa using this
theorem idx_succ (n : Nat) (lost : List Int) : idx (n + 1) lost = idx n lost ++ (if lost.contains (n : Int) then [] else [n]) := by
  unfold idx
  rw [List.range_succ, List.filter_append]
  congr 1
  by_cases h : (n : Int) ∈ lost
  · simp [List.filter, h]
  · simp [List.filter, h]
theorem idx_prefix {m n : Nat} (h : m ≤ n) (lost : List Int) : idx m lost <+: idx n lost := by
  induction n with
  | zero => obtain rfl : m = 0 := by omega
            exact List.prefix_refl _
  | succ n ih =>
    by_cases e : m = n + 1
    · subst e; exact List.prefix_refl _
    · rw [idx_succ]
      exact (ih (by omega)).trans (List.prefix_append _ _)

set_option maxRecDepth 100000 in
set_option maxHeartbeats 1000000 in
theorem kept1_c (Bl Bo n₀ Bx : Nat) (hBl : Bl < n₀) (hBo : Bo < n₀) (hBlx : Bl ≠ Bx) (hBox : Bo ≠ Bx) (A A' : Option Addr) (n c c' : Nat) (hd : Nat → Value) (lost : List Int) (hn : n ≤ 1000000) (hm : lost.length ≤ 1000000) (hc' : lost.length ≤ c') (w : World) (hn0 : n₀ ≤ w.heap.size)
    (fl : w.cell? ⟨Bl, 0, none⟩ = some (.slice A n c)) (fo : w.cell? ⟨Bo, 0, none⟩ = some (.slice A' lost.length c'))
    (hx : ∀ i : Nat, i < n → ∃ ad, A = some ad ∧ ∀ W, KpE n₀ Bx w W → W.cell? (ad.add i) = some (hd i))
    (ho : ∀ W, KpE n₀ Bx w W → Kd.C (Kd.int .i64) W A' lost.length lost) :
    IterC Try.prog 51 #[.pointer (some ⟨Bl, 0, none⟩), .pointer (some ⟨Bo, 0, none⟩)] (fun i : Nat => #[hd i]) StD (KpE n₀ Bx) (fun xs => xs = idx n lost) (fun pre => pre <+: idx n lost) n w := by
  intro l J Jx W hbW hJ hJx hY h0
  have k0 : KpE n₀ Bx w W := ⟨hbW.size, fun k h1 _ => hbW.block k (by omega)⟩
  have HX := Lib.hid hx
  have HO := Lib.hid ho
  have HJ := Lib.hid hJ
  have fl1 := at_kept k0 fl hBl hBlx
  clear hx ho hJ
  refine callsIn_of_wp Try.func51 rfl trivial ?_ rfl
  simp only [Try.ntmps51, List.size_toArray, List.length_cons, List.length_nil, Nat.reduceAdd, Nat.reduceSub, Array.replicate_succ, Array.replicate_zero, List.push_toArray, List.append_toArray, List.nil_append, List.cons_append]
  gi_wp2
  gi_loopw [8] (fun i wr => ∃ j : Nat, i = .int .i64 j ∧ j ≤ n ∧ J (idx j lost) wr ∧ KpE n₀ Bx w wr) (fun i _ => n - (intOf i).toNat)
  case atStart => exact ⟨0, rfl, Nat.zero_le _, by simpa [idx] using h0, k0⟩
  case round =>
    obtain ⟨j, rfl, hj, hJp, kp⟩ := hrel
    by_cases hjl : j < n
    · obtain ⟨ad, e, hx2⟩ := HX.out j hjl
      subst e
      have hx3 := hx2 wr kp
      have fo1 := at_kept kp fo hBo hBox
      have hlen : (idx j lost).length ≤ j := idx_len j lost
      have HP := Lib.hid (idx_prefix (m := j + 1) (n := n) (by omega) lost)
      have HS := Lib.hid (idx_succ j lost)
      have HC := Lib.hid (contains_any A' lost.length c' lost (j : Int) wr rfl hm (HO.out wr kp) hc')
      clear hx2
      by_cases hc : lost.contains (j : Int)
      · have HCc := Lib.hid hc
        rw [hc] at HC
        clear hc
        gi_wp2_with fail
        refine (callsIn_wide.2 HC.out).mono ?_
        rintro e w1 ⟨rfl, q, rfl⟩
        gi_wp2_with fail
        go_roundw
        case rel =>
          refine ⟨j + 1, by simp, by omega, ?_, ⟨kp.size, kp.block⟩⟩
          rw [HS.out, if_pos HCc.out, List.append_nil]
          exact HJ.out _ _ _ ⟨q, rfl⟩ hJp
        case measure => simp [intOf]; omega
      · have HCc := Lib.hid hc
        rw [Bool.not_eq_true] at hc
        rw [hc] at HC
        clear hc
        have hpre : (idx j lost ++ [j]) <+: idx n lost := by
          have := HP.out
          rwa [HS.out, if_neg HCc.out] at this
        have hY1 := Lib.hid (hY (idx j lost) j)
        gi_wp2_with fail
        refine (callsIn_wide.2 HC.out).mono ?_
        rintro e w1 ⟨rfl, q, rfl⟩
        obtain ⟨fn, tmps, assign, body, hy, hR⟩ := hY1.out (wr.drewN q) (HJ.out _ _ _ ⟨q, rfl⟩ hJp) (by omega) hpre
        gi_wp2_with fail
        refine hR.mono ?_
        rintro e W3 (⟨rfl, hJ3, hk3⟩ | ⟨rfl, hJx3⟩)
        · gi_wp2_with fail
          go_roundw
          case rel =>
            refine ⟨j + 1, by simp, by omega, ?_, ⟨Nat.le_trans kp.size hk3.size, fun k h1 h2 => (hk3.block k h1 h2).trans (kp.block k h1 h2)⟩⟩
            rw [HS.out, if_neg HCc.out]
            exact hJ3
          case measure => simp [intOf]; omega
        · gi_wp2_with fail
          refine bodyPost_ret (results_none rfl _ _ _) rfl ?_
          exact ⟨⟨_, rfl⟩, .inr ⟨_, hpre, hJx3⟩⟩
    · obtain rfl : j = n := by omega
      gi_wp2
      go_end0
      exact ⟨⟨_, rfl⟩, .inl ⟨_, rfl, hJp⟩⟩
theorem kept_any (A A' : Option Addr) (n n' c c' : Nat) (w : World) :
    Calls Try.prog 43 #[.slice A n c, .slice A' n' c'] w fun e w' => e = .returned (.func (.func 51) #[] #[.pointer (some ⟨w.heap.size, 0, none⟩), .pointer (some ⟨w.heap.size + 1, 0, none⟩)]) ∧ w' = (w.alloc (.cells #[.slice A n c] 25)).alloc (.cells #[.slice A' n' c'] 35) := by
  go_enter Try.func43, Try.ntmps43
  go_wp2
  go_ret
  exact ⟨by simp, rfl⟩
/-- an append to a row from n₀ on, and its header stored into a box -/
theorem kp_appended {W w1 : World} {n₀ B : Nat} {e : TypeId} {size : Nat} {v : Value} {k : Nat} {xs : List Value} {tmp : Obj} (hrow : W.ownsRow n₀ e size v k xs) (hgrow : (W.alloc tmp).grownBy w1 v.ownBlock) (hn : n₀ ≤ W.heap.size) (v' : Value) : KpE n₀ B W (w1.setCell ⟨B, 0, none⟩ v') := by
  refine ⟨?_, fun i h1 h2 => ?_⟩
  · have := hgrow.size
    simp [World.setCell] at this ⊢
    omega
  · rw [Below.heap_setCell w1 ⟨B, 0, none⟩ v' i h2, hgrow.block i (by simp; omega) (fun he => by have := own_base hrow i he.symm; omega)]
    exact Below.heap_alloc _ _ _ (by omega)
/-! ### rs.may -/
theorem info_row : (Try.prog.info? 22).map (fun i => (i.zero, i.size, i.bytes)) = some (some (.slice none 0 0), 1, 24) := by kernel_rfl
/-- the headers of a row of rows -/
def fA (w : World) (A : Option Addr) (i : Nat) : Option Addr := match A with
  | some ad => match w.cell? (ad.add i) with
    | some (.slice B _ _) => B
    | _ => none
  | none => none
def fc (w : World) (A : Option Addr) (i : Nat) : Nat := match A with
  | some ad => match w.cell? (ad.add i) with
    | some (.slice _ _ c) => c
    | _ => 0
  | none => 0
def hdr (w : World) (A : Option Addr) (L : List (List Int)) (i : Nat) : Value := .slice (fA w A i) (row L i).length (fc w A i)
theorem hdr_at {w : World} {A : Option Addr} {L : List (List Int)} (h : Kd.C (Kd.slice 5 (Kd.int .u8)) w A L.length L) (i : Nat) (hi : i < L.length) :
    ∃ ad, A = some ad ∧ w.cell? (ad.add i) = some (hdr w A L i) ∧ (row L i).length ≤ fc w A i ∧ Kd.C (Kd.int .u8) w (fA w A i) (row L i).length (row L i) := by
  obtain ⟨ad, A0, c0, e, h1, h2, h3⟩ := at_L1 h (i : Int) (by omega) (by omega)
  subst e
  have r0 : rd_L1 L (i : Int) = row L i := by unfold rd_L1 row; simp
  rw [r0] at h1 h2 h3
  simp only [Int.toNat_natCast] at h1
  have eA : fA w (some ad) i = A0 := by simp [fA, h1]
  have ec : fc w (some ad) i = c0 := by simp [fc, h1]
  exact ⟨ad, rfl, by rw [hdr, eA, ec]; exact h1, by rw [ec]; exact h2, by rw [eA]; exact h3⟩
/-- rows by their headers -/
theorem C_of_cells {W : World} {v : Value} {base : Nat} {L : List (List Int)} {xs : List Nat} {hd : Nat → Value} {ok : ∀ i, i ∈ xs → ∃ A c, hd i = .slice A (row L i).length c ∧ (row L i).length ≤ c ∧ Kd.C (Kd.int .u8) W A (row L i).length (row L i)}
    (h : W.ownsRow base 22 1 v xs.length (xs.map hd)) (hm : xs.length ≤ 1000000) : ∃ A c, v = .slice A (xs.map (row L)).length c ∧ (xs.map (row L)).length ≤ c ∧ Kd.C (Kd.slice 5 (Kd.int .u8)) W A (xs.map (row L)).length (xs.map (row L)) := by
  rcases h.2 with ⟨rfl, h0⟩ | ⟨g, cap, cur, rfl, hg, hh, hc1, _, _, _⟩
  · have : xs = [] := List.eq_nil_of_length_eq_zero h0
    subst this
    exact ⟨none, 0, rfl, Nat.le_refl _, Kd.C_nil _ _⟩
  · refine ⟨some ⟨g, 0, none⟩, cap, by rw [List.length_map], by rw [List.length_map]; exact hc1, rfl, by rw [List.length_map]; omega, fun _ => ⟨_, rfl, fun j p hj => ?_⟩⟩
    rw [List.getElem?_map] at hj
    obtain ⟨i, hi, rfl⟩ := Option.map_eq_some_iff.1 hj
    have him : i ∈ xs := List.mem_of_getElem? hi
    obtain ⟨A, c, e1, e2, e3⟩ := ok i him
    refine ⟨[hd i], rfl, ⟨A, c, by rw [e1], e2, e3⟩, fun q u hu => ?_⟩
    have hq : q = 0 := by
      have := (List.getElem?_eq_some_iff.1 hu).1
      simp at this
      omega
    subst hq
    simp only [List.getElem?_cons_zero, Option.some.injEq] at hu
    subst hu
    have := h.cells (g := g) rfl (j * 1 + 0) (hd i) (by rw [Nat.mul_one, Nat.add_zero, List.getElem?_map, hi]; rfl)
    exact this
/-- a place that may be lost -/
def goodB (n : Nat) (lost : List Int) : Bool := lost.all fun i => decide (0 ≤ i) && decide (i < n)
theorem nodup_take_succ {L : List Int} {j : Nat} (h : j < L.length) : (L.take (j + 1)).Nodup ↔ (L.take j).Nodup ∧ ¬ (L.take j).contains L[j] = true := by
  rw [List.take_succ_eq_append_getElem h, List.nodup_append]
  simp only [List.nodup_cons, List.not_mem_nil, not_false_eq_true, List.nodup_nil, and_self, true_and, List.mem_singleton, List.contains_iff_mem]
  constructor
  · rintro ⟨h1, h2⟩
    exact ⟨h1, fun h3 => h2 _ h3 _ rfl rfl⟩
  · rintro ⟨h1, h2⟩
    refine ⟨h1, ?_⟩
    rintro a ha b rfl rfl
    exact h2 ha
theorem mayB_bad {l : List (List Int)} {lost : List Int} {j : Nat} (h : j < lost.length) (hb : lost[j] < 0 ∨ (l.length : Int) ≤ lost[j] ∨ (lost.take j).contains lost[j] = true) : mayB l lost = false := by
  rw [Bool.eq_false_iff]
  intro hm
  simp only [mayB, Bool.and_eq_true, decide_eq_true_eq, List.all_eq_true] at hm
  obtain ⟨⟨⟨_, h1⟩, h2⟩, _⟩ := hm
  have h3 := h1 _ (List.getElem_mem h)
  rcases hb with hb | hb | hb
  · omega
  · omega
  · have h4 : (lost.take (j + 1)).Nodup := h2.sublist (List.take_sublist _ _)
    exact ((nodup_take_succ h).1 h4).2 hb
theorem mayB_len {l : List (List Int)} {lost : List Int} (h : ¬ 4 ≤ l.length ∨ ¬ l.length ≤ 16 ∨ ¬ lost.length ≤ 2) : mayB l lost = false := by
  rw [Bool.eq_false_iff]
  intro hm
  simp only [mayB, Bool.and_eq_true, decide_eq_true_eq, List.all_eq_true] at hm
  obtain ⟨⟨⟨⟨⟨h1, h2⟩, h3⟩, _⟩, _⟩, _⟩ := hm
  omega
theorem mayB_of {l : List (List Int)} {lost : List Int} (h1 : 4 ≤ l.length) (h2 : l.length ≤ 16) (h3 : lost.length ≤ 2) (h4 : ∀ j (h : j < lost.length), 0 ≤ lost[j] ∧ lost[j] < l.length) (h5 : lost.Nodup) : mayB l lost = alikeR (kept l lost) := by
  have e : lost.all (fun i => decide (0 ≤ i) && decide (i < (l.length : Int))) = true := by
    rw [List.all_eq_true]
    intro x hx
    obtain ⟨j, hj, rfl⟩ := List.getElem_of_mem hx
    have := h4 j hj
    simp only [Bool.and_eq_true, decide_eq_true_eq]
    exact this
  unfold mayB
  rw [e, decide_eq_true h1, decide_eq_true h2, decide_eq_true h3, decide_eq_true h5]
  simp only [Bool.and_true, Bool.true_and]
set_option maxRecDepth 100000 in
set_option maxHeartbeats 4000000 in
theorem may_any (A A' : Option Addr) (c c' : Nat) (L : List (List Int)) (lost : List Int) (w : World) (hm : L.length ≤ 1000000) (hm' : lost.length ≤ 1000000) (hr : Kd.C (Kd.slice 5 (Kd.int .u8)) w A L.length L) (ho : Kd.C (Kd.int .i64) w A' lost.length lost) (hc : L.length ≤ c) (hc' : lost.length ≤ c') :
    Calls Try.prog 31 #[.slice A L.length c, .slice A' lost.length c'] w fun e w' => ∃ r : Int, e = .returned (.tuple #[.int .i64 r, .bool (mayB L lost)]) ∧ (mayB L lost = true → r = (lenR (kept L lost) : Nat)) ∧ Below w.heap.size w w' := by
  obtain ⟨i0, hi, hz0, hz1, hz2⟩ := info_parts info_row
  have HR := Lib.hid hr
  have HO := Lib.hid ho
  have HM := Lib.hid hm
  have HM' := Lib.hid hm'
  have HCc := Lib.hid hc
  have HCc' := Lib.hid hc'
  clear hr ho hc hc'
  refine (callsIn_wide (n := 0)).1 ?_
  refine callsIn_of_wp_marks Try.func31 rfl trivial ?_ rfl
  simp only [Try.ntmps31, List.size_toArray, List.length_cons, List.length_nil, Nat.reduceAdd, Nat.reduceSub, Array.replicate_succ, Array.replicate_zero, List.push_toArray, List.append_toArray, List.nil_append, List.cons_append]
  by_cases h4 : L.length < 4
  · have hf := Lib.hid (mayB_len (l := L) (lost := lost) (by omega))
    gi_wp2_with fail
    refine ⟨_, results_tmp2 rfl _ _ _, 0, ?_, fun h => ?_, Below.refl _ _⟩
    · rw [hf.out]; rfl
    · rw [hf.out] at h; cases h
  by_cases h16 : 16 < L.length
  · have hf := Lib.hid (mayB_len (l := L) (lost := lost) (by omega))
    gi_wp2_with fail
    refine ⟨_, results_tmp2 rfl _ _ _, 0, ?_, fun h => ?_, Below.refl _ _⟩
    · rw [hf.out]; rfl
    · rw [hf.out] at h; cases h
  by_cases h2 : 2 < lost.length
  · have hf := Lib.hid (mayB_len (l := L) (lost := lost) (by omega))
    gi_wp2_with fail
    refine ⟨_, results_tmp2 rfl _ _ _, 0, ?_, fun h => ?_, Below.refl _ _⟩
    · rw [hf.out]; rfl
    · rw [hf.out] at h; cases h
  gi_wp2_with fail
  gi_loopw [25] (fun i wr => ∃ j : Nat, i = .int .i64 j ∧ j ≤ lost.length ∧ Hid (∀ m (h : m < lost.length), m < j → 0 ≤ lost[m] ∧ lost[m] < L.length) ∧ Hid (lost.take j).Nodup ∧ ∃ m, wr = w.drewN m) (fun i _ => lost.length - (intOf i).toNat)
  case atStart => exact ⟨0, rfl, Nat.zero_le _, Lib.hid (fun m _ h => by omega), Lib.hid (by simp), 0, rfl⟩
  case round =>
    obtain ⟨j, rfl, hj, hg, hnd, m, rfl⟩ := hrel
    by_cases hjl : j < lost.length
    · obtain ⟨ad, e, hx⟩ := Kd.at_int HO.out (j : Int) (by omega) (by omega)
      subst e
      have hx2 : (w.drewN m).cell? (ad.add j) = some (.int .i64 lost[j]) := by
        have h4 : Go.Proofs.YtdbnladpogpiiaaW.PrintWords.rd lost (j : Int) = lost[j] := by unfold Go.Proofs.YtdbnladpogpiiaaW.PrintWords.rd; simp [hjl]
        rw [h4] at hx
        simpa using hx
      clear hx
      obtain ⟨x, hxx⟩ : ∃ x, x = lost[j] := ⟨_, rfl⟩
      rw [← hxx] at hx2
      have HX := Lib.hid hxx
      clear hxx
      by_cases hx0 : x < 0
      · have hf := Lib.hid (mayB_bad (l := L) hjl (.inl (HX.out ▸ hx0)))
        gi_wp2_with fail
        refine ⟨_, results_tmp2 rfl _ _ _, 0, ?_, fun h => ?_, pw_below_drewN (Below.refl _ _) m⟩
        · rw [hf.out]; rfl
        · rw [hf.out] at h; cases h
      by_cases hxl : (L.length : Int) ≤ x
      · have hf := Lib.hid (mayB_bad (l := L) hjl (.inr (.inl (HX.out ▸ hxl))))
        gi_wp2_with fail
        refine ⟨_, results_tmp2 rfl _ _ _, 0, ?_, fun h => ?_, pw_below_drewN (Below.refl _ _) m⟩
        · rw [hf.out]; rfl
        · rw [hf.out] at h; cases h
      have HT := Lib.hid (Kd.C_take (Kd.C_drewN HO.out m) hj)
      have hcon := fun W => contains_any (some ad) j c' (lost.take j) x W (by rw [List.length_take]; omega) (by rw [List.length_take]; omega)
      have HCon := Lib.hid hcon
      have hjc : j ≤ c' := Nat.le_trans hj HCc'.out
      have HT2 := Lib.hid (show Kd.C (Kd.int .i64) (w.drewN m) (some ad) j (lost.take j) from by have := HT.out; rwa [List.length_take, Nat.min_eq_left hj] at this)
      clear hcon HT
      by_cases hcn : (lost.take j).contains x = true
      · have hf := Lib.hid (mayB_bad (l := L) hjl (.inr (.inr (by rw [← HX.out]; exact hcn))))
        gi_wp2_with fail
        refine (callsIn_wide.2 (HCon.out _ HT2.out hjc)).mono ?_
        rintro e w1 ⟨rfl, q, rfl⟩
        rw [hcn]
        clear hcn
        gi_wp2_with fail
        refine ⟨_, results_tmp2 rfl _ _ _, 0, ?_, fun h => ?_, pw_below_drewN (Below.refl _ _) (m + q)⟩
        · rw [hf.out]; rfl
        · rw [hf.out] at h; cases h
      · have HN := Lib.hid hcn
        have HF := Lib.hid (Bool.eq_false_iff.2 hcn)
        clear hcn
        gi_wp2_with fail
        refine (callsIn_wide.2 (HCon.out _ HT2.out hjc)).mono ?_
        rintro e w1 ⟨rfl, q, rfl⟩
        rw [HF.out]
        gi_wp2_with fail
        go_roundw
        case rel =>
          refine ⟨j + 1, by simp, by omega, Lib.hid (fun i h hi => ?_), Lib.hid ((nodup_take_succ hjl).2 ⟨hnd.out, by rw [← HX.out]; exact HN.out⟩), m + q, by simp [World.drewN_drewN]⟩
          by_cases hij : i = j
          · subst hij
            rw [← HX.out]
            exact ⟨by omega, by omega⟩
          · exact hg.out i h (by omega)
        case measure => simp [intOf]; omega
    · obtain rfl : j = lost.length := by omega
      have hall := mayB_of (l := L) (lost := lost) (by omega) (by omega) (by omega) (fun q h => hg.out q h h) (by have := hnd.out; rwa [List.take_length] at this)
      have HALL := Lib.hid hall
      clear hall hg hnd
      gi_wp2_with fail
      refine (callsIn_wide.2 (kept_any A A' L.length lost.length c c' _)).mono ?_
      rintro e w1 ⟨rfl, rfl⟩
      gi_wp2_with fail
      obtain ⟨W0, hW0⟩ : ∃ W0, ((((w.drewN m).alloc (Obj.cells #[Value.slice none 0 0] 25)).alloc (Obj.cells #[Value.slice A L.length c] 25)).alloc (Obj.cells #[Value.slice A' lost.length c'] 35)) = W0 := ⟨_, rfl⟩
      rw [hW0]
      have z0 : W0.heap.size = w.heap.size + 3 := by rw [← hW0]; simp
      have bW : Below w.heap.size w W0 := by rw [← hW0]; exact (((pw_below_drewN (Below.refl _ _) m).alloc (by simp) _).alloc (by simp) _).alloc (by simp; omega) _
      have c0 : Boxed W0 w.heap.size 25 (.slice none 0 0) := by rw [← hW0]; exact ((Boxed.new (w.drewN m) _ _).alloc _).alloc _
      have fl : W0.cell? ⟨w.heap.size + 1, 0, none⟩ = some (.slice A L.length c) := by rw [← hW0]; clear hW0; go_simp
      have fo : W0.cell? ⟨w.heap.size + 1 + 1, 0, none⟩ = some (.slice A' lost.length c') := by rw [← hW0]; clear hW0; go_simp
      clear hW0
      have KH := Lib.hid (fun W (h : KpE (w.heap.size + 3) w.heap.size W0 W) k (hlt : k < w.heap.size) => ((h.block k (by omega) (by omega)).trans (bW.block k hlt) : W.heap[k]? = w.heap[k]?))
      have hI : OwnFrom W0.heap.size (fun (pre : List Nat) W => (∃ v, Boxed W w.heap.size 25 v ∧ W.ownsRow (w.heap.size + 3) 22 1 v pre.length (pre.map (hdr w A L)) ∧ True) ∧ Below w.heap.size w W) :=
        OwnFrom.and (Own.from (holdsRow_own (w.heap.size + 3) w.heap.size 25 22 1 (fun pre : List Nat => pre.length) (fun pre => pre.map (hdr w A L)) (fun pre v => True)) _) (ownFrom_below (Nat.le_refl _) (by omega))
      refine range_c (gf := 51) rfl (fun _ _ => rfl) (kept1_c (w.heap.size + 1) (w.heap.size + 1 + 1) (w.heap.size + 3) w.heap.size (by omega) (by omega) (by omega) (by omega) A A' L.length c c' (hdr w A L) lost HM.out HM'.out HCc'.out W0 (by omega) fl fo ?_ ?_)
        (fun h k => h.trans k) (fun W l o o' hl h _ _ => ⟨by simp, fun k h1 h2 => World.putObj_heap_other (by omega)⟩) (fun A B ⟨n, e⟩ => by subst e; exact ⟨Nat.le_refl _, fun _ _ h _ => h⟩) (Below.refl _ _) (fun _ => rfl)
        (fun pre W => (∃ v, Boxed W w.heap.size 25 v ∧ W.ownsRow (w.heap.size + 3) 22 1 v pre.length (pre.map (hdr w A L)) ∧ True) ∧ Below w.heap.size w W) (fun _ _ _ => False) hI (fun c pre A B row h => h.elim) ?_ (fun _ _ _ _ _ h => h) ⟨⟨_, c0, World.ownsRow_nil _ _ _ _, trivial⟩, bW⟩ ?_ ?_ ?_
      · intro i hi
        obtain ⟨ad, e, h1, _, _⟩ := hdr_at HR.out i hi
        exact ⟨ad, e, fun W h => (World.cell?_of_block (KH.out W h _ (World.block_lt_of_cell? w _ h1))).trans h1⟩
      · intro W h
        exact (Kd.heap_int _).C (KH.out W h) HO.out
      · rintro pre A1 B1 ⟨q, rfl⟩ ⟨⟨v, hv, hrow, _⟩, hB⟩
        exact ⟨⟨v, hv, hrow, trivial⟩, pw_below_drewN hB q⟩
      · rintro l pre x W hi2 hlen hsp hsz
        gi_wp2_with fail
        refine ⟨KeepsOthers.refl _, KpE.refl _, fun X => _, fun A B row h hg hr => hI _ _ _ _ h hg hr, hi2, ?_⟩
        rintro W₂ ⟨⟨v, hv, hrow, _⟩, hB⟩ h4
        have hs2 : w.heap.size + 3 ≤ W₂.heap.size := by omega
        have hrow0 := own_weaken hrow (show w.heap.size ≤ w.heap.size + 3 by omega)
        have Hs2 := Lib.hid hs2
        clear h4 hsz hs2
        have hc := hv.cell
        have hlx : pre.length < L.length := hlen
        obtain ⟨A3, n3, c3, e3⟩ : ∃ A3 n3 c3, hdr w A L x = .slice A3 n3 c3 := ⟨_, _, _, rfl⟩
        rw [e3]
        gi_wp2_with (gi_at_builtin; refine wpListIn_append_own _ rfl _ _ 25 rfl (w.heap.size + 3) 22 i0 (.slice none 0 0) 1 24 Try.underlying25 hi hz0 hz1 hz2 rfl (by decide) _ _ _ rfl (hrow.alloc _) ⟨W₂.heap.size, 0, none⟩ 1 1 [.slice A3 n3 c3] rfl rfl (cell_one_new _ _ _) (by simp [Value.oneCell']) (by unfold maxLen; omega) (by omega) (by have := Hs2.out; simp; omega) ?_; intro v' w1 hown' hgrow _; obtain ⟨g', cap', rfl⟩ := ownsRow_succ hown'; obtain ⟨hv1, hv2, hr2, hk2, hb2⟩ := hv.appended (by decide) hrow0 hB.size (Nat.le_refl _) (own_weaken hown' (show w.heap.size ≤ w.heap.size + 3 by omega)) hgrow; have hc1 := hv1.cell; have hf1 := hv1.frozen)
        exact ⟨hk2, kp_appended hrow hgrow Hs2.out _, ⟨_, hv2, by simpa [e3] using hown'.kept (grownBy_setCell' w1 w.heap.size _) (.inr (hv1.not_row (by decide) hown').symm), trivial⟩, hB.trans hb2⟩
      · rintro D ys W hDl rfl ⟨⟨v, hv, hrow, _⟩, hB⟩ hD
        have hc := hv.cell
        have hlL : L.length ≤ 16 := by omega
        obtain ⟨A2, c2, rfl, hA2, hC2⟩ := C_of_cells (L := L) (ok := fun i hi => by
          obtain ⟨_, _, _, g1, g2⟩ := hdr_at HR.out i (idx_lt hi)
          exact ⟨_, _, rfl, g1, Kd.C_below g2 hB⟩) hrow (by have := idx_len L.length lost; omega)
        rw [← kept_idx] at hA2 hC2 hc
        have HA2 := Lib.hid hA2
        have HC2 := Lib.hid hC2
        clear hA2 hC2
        have hkl : (kept L lost).length ≤ 1000000 := by rw [kept_idx, List.length_map]; have := idx_len L.length lost; omega
        obtain ⟨k, hk⟩ := (alike_ev (kept L lost) hkl).rounds
        have HK := Lib.hid hk
        clear hk
        by_cases hal : alikeR (kept L lost) = true
        · have HAL := Lib.hid hal
          rw [if_pos hal] at HK
          clear hal
          gi_wp2_with fail
          refine (callsIn_wide.2 (rs_alike.calls k A2 c2 (kept L lost) _ _ W HC2.out HA2.out HK.out)).mono ?_
          rintro e w1 ⟨rfl, ⟨q, rfl⟩⟩
          gi_wp2_with fail
          refine ⟨by simp, .inl ⟨_, _, rfl, run_takeDeferred hD, ?_⟩⟩
          refine ⟨_, results_tmp2 rfl _ _ _, _, ?_, fun _ => rfl, (pw_below_drewN hB q).trans (belowK_b (w := w) (Nat.le_refl _) (W.drewN q) D _ _ (by omega) hD rfl rfl)⟩
          rw [HALL.out, HAL.out]
          rfl
        · have HAL := Lib.hid (Bool.eq_false_iff.2 hal)
          rw [if_neg hal] at HK
          clear hal
          gi_wp2_with fail
          refine (callsIn_wide.2 (rs_alike.calls k A2 c2 (kept L lost) _ _ W HC2.out HA2.out HK.out)).mono ?_
          rintro e w1 ⟨rfl, ⟨q, rfl⟩⟩
          gi_wp2_with fail
          refine ⟨by simp, .inl ⟨_, _, rfl, run_takeDeferred hD, ?_⟩⟩
          refine ⟨_, results_tmp2 rfl _ _ _, 0, ?_, fun h => ?_, (pw_below_drewN hB q).trans (belowK_b (w := w) (Nat.le_refl _) (W.drewN q) D _ _ (by omega) hD rfl rfl)⟩
          · rw [HALL.out, HAL.out]
            rfl
          · rw [HALL.out, HAL.out] at h
            cases h
      · intro D c pre W _ _ h; exact h.elim
end Go.Proofs.Ytdbnladpogpiiaa.Kp
