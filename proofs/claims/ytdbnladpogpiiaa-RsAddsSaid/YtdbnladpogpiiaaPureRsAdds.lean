/-
  RsAdds, plainly: parities of sums are the sums of parities.
-/
import Derived.Test.YtdbnladpogpiiaaPRsx3
import Derived.Test.YtdbnladpogpiiaaPa
namespace Go.Proofs.Ytdbnladpogpiiaa.Pure
open Go.RowKit Go.Proofs.Ytdbnladpogpiiaa.PRs Go.Proofs.YtdbnladpogpiiaaW.PrintWords Go.Proofs.YtdbnladpogpiiaaW.PrintLast Go.Proofs.Ytdbnladpogpiiaa.Fld Go.Proofs.Ytdbnladpogpiiaa.Pl Go.Proofs.Ytdbnladpogpiiaa.Pa
set_option linter.unusedSimpArgs false
set_option linter.unusedVariables false

/-- a sum of two rows, as far as it has come -/
def zr (x y : List Int) (s j : Nat) : List Int := (List.range s).map fun k => if k < j then xorI (at_ x k) (at_ y k) else 0
def zs (X Y : List (List Int)) (s i : Nat) : List (List Int) := (List.range i).map fun j => zr (row X j) (row Y j) s s
theorem zr_len (x y : List Int) (s j : Nat) : (zr x y s j).length = s := by simp [zr]
theorem zr_zero (x y : List Int) (s : Nat) : zr x y s 0 = List.replicate s 0 := by
  apply List.ext_getElem (by simp [zr])
  intro k h1 h2
  simp [zr]
theorem zr_set (x y : List Int) (s j : Nat) (hj : j < s) : (zr x y s j).set j (xorI (at_ x j) (at_ y j)) = zr x y s (j + 1) := by
  apply List.ext_getElem (by simp [zr])
  intro k h1 h2
  rw [List.getElem_set]
  split
  · rename_i e; subst e; simp [zr]
  · rename_i e
    simp only [zr, List.getElem_map, List.getElem_range]
    by_cases hk : k < j
    · rw [if_pos hk, if_pos (by omega)]
    · rw [if_neg hk, if_neg (by omega)]
theorem zr_at (x y : List Int) (s k : Nat) (hk : k < s) : at_ (zr x y s s) k = xorI (at_ x k) (at_ y k) := by
  rw [at_lt (by rw [zr_len]; exact hk)]
  simp [zr, hk]
theorem bytes_zr {x y : List Int} (hx : Bytes x) (hy : Bytes y) (s j : Nat) : Bytes (zr x y s j) := by
  intro v hv
  simp only [zr, List.mem_map] at hv
  obtain ⟨k, _, rfl⟩ := hv
  split
  · exact byt_xor (byt_at hx k) (byt_at hy k)
  · exact byt_zero
theorem zs_succ (X Y : List (List Int)) (s i : Nat) : zs X Y s (i + 1) = zs X Y s i ++ [zr (row X i) (row Y i) s s] := by simp [zs, List.range_succ]
theorem zs_len (X Y : List (List Int)) (s i : Nat) : (zs X Y s i).length = i := by simp [zs]
theorem bytes_row {L : List (List Int)} (h : ∀ r ∈ L, Bytes r) (j : Nat) : Bytes (row L j) := by
  by_cases hj : j < L.length
  · rw [row_lt hj]; exact h _ (List.getElem_mem hj)
  · have : row L j = [] := by unfold row; rw [List.getD_eq_getElem?_getD, List.getElem?_eq_none (by omega)]; rfl
    rw [this]; intro x hx; simp at hx
theorem bytes_zs {X Y : List (List Int)} (hX : ∀ r ∈ X, Bytes r) (hY : ∀ r ∈ Y, Bytes r) (s i : Nat) : ∀ r ∈ zs X Y s i, Bytes r := by
  intro r hr
  simp only [zs, List.mem_map] at hr
  obtain ⟨j, _, rfl⟩ := hr
  exact bytes_zr (bytes_row hX j) (bytes_row hY j) s s
theorem rows_zs (X Y : List (List Int)) (s i : Nat) : ∀ r ∈ zs X Y s i, r.length = s := by
  intro r hr
  simp only [zs, List.mem_map] at hr
  obtain ⟨j, _, rfl⟩ := hr
  exact zr_len _ _ _ _
theorem pS_zs {X Y : List (List Int)} (hX : ∀ r ∈ X, Bytes r) (hY : ∀ r ∈ Y, Bytes r) (s k : Nat) (hk : k < s) : ∀ i, i ≤ X.length → i ≤ Y.length → pS (zs X Y s i) k = xorI (pS (X.take i) k) (pS (Y.take i) k)
  | 0, _, _ => by simp [zs, pS]; rfl
  | i + 1, h1, h2 => by
    have tX : ∀ r ∈ X.take i, Bytes r := fun r hr => hX r (List.mem_of_mem_take hr)
    have tY : ∀ r ∈ Y.take i, Bytes r := fun r hr => hY r (List.mem_of_mem_take hr)
    have mX := List.getElem_mem (l := X) (n := i) (by omega)
    have mY := List.getElem_mem (l := Y) (n := i) (by omega)
    rw [zs_succ, pS_snoc _ _ _ (bytes_zs hX hY s i) (bytes_zr (bytes_row hX i) (bytes_row hY i) s s), pS_zs hX hY s k hk i (by omega) (by omega), zr_at _ _ _ _ hk, List.take_succ_eq_append_getElem (by omega), List.take_succ_eq_append_getElem (by omega),
      pS_snoc _ _ _ tX (hX _ mX), pS_snoc _ _ _ tY (hY _ mY), row_lt (by omega), row_lt (by omega), xorI_swap]
theorem qS_zs {X Y : List (List Int)} (hX : ∀ r ∈ X, Bytes r) (hY : ∀ r ∈ Y, Bytes r) (s k : Nat) (hk : k < s) : ∀ i, i ≤ X.length → i ≤ Y.length → qS 0 (zs X Y s i) k = xorI (qS 0 (X.take i) k) (qS 0 (Y.take i) k)
  | 0, _, _ => by simp [zs, qS]; rfl
  | i + 1, h1, h2 => by
    have tX : ∀ r ∈ X.take i, Bytes r := fun r hr => hX r (List.mem_of_mem_take hr)
    have tY : ∀ r ∈ Y.take i, Bytes r := fun r hr => hY r (List.mem_of_mem_take hr)
    have mX := List.getElem_mem (l := X) (n := i) (by omega)
    have mY := List.getElem_mem (l := Y) (n := i) (by omega)
    have l1 : (X.take i).length = i := by simp; omega
    have l2 : (Y.take i).length = i := by simp; omega
    rw [zs_succ, qS_snoc _ _ _ _ (bytes_zs hX hY s i) (bytes_zr (bytes_row hX i) (bytes_row hY i) s s), qS_zs hX hY s k hk i (by omega) (by omega), zr_at _ _ _ _ hk, List.take_succ_eq_append_getElem (by omega), List.take_succ_eq_append_getElem (by omega),
      qS_snoc _ _ _ _ tX (hX _ mX), qS_snoc _ _ _ _ tY (hY _ mY), row_lt (by omega), row_lt (by omega), zs_len, l1, l2, mulI_xor (byt_at (hX _ mX) k) (byt_at (hY _ mY) k), xorI_swap]

section
variable (X Y : List (List Int)) (n s : Nat) (hX : X.length = n) (hY : Y.length = n) (rX : ∀ r ∈ X, r.length = s) (rY : ∀ r ∈ Y, r.length = s) (bX : ∀ r ∈ X, Bytes r) (bY : ∀ r ∈ Y, Bytes r)
include hX hY rX rY bX bY
theorem adds_l2 : ∀ d j, s - j = d → j ≤ s → s ≤ 1000 → Ev (fun k => ramekinlaw5_RsAdds.l2 k (s : Int) (sumP X s) (sumQ X s) (sumP Y s) (sumQ Y s) (sumP (zs X Y s n) s) (sumQ (zs X Y s n) s) (j : Int)) true
  | 0, j, hd, hj, hs => by
    obtain rfl : j = s := by omega
    refine Ev.step (f := fun _ => some true) (fun k => ?_) (Ev.now _)
    rw [ramekinlaw5_RsAdds.l2, if_neg (by omega)]
  | d + 1, j, hd, hj, hs => by
    have hjs : j < s := by omega
    refine Ev.step (fun k => ?_) (adds_l2 d (j + 1) (by omega) (by omega) hs)
    have e1 : pS (zs X Y s n) j = xorI (pS X j) (pS Y j) := by
      have := pS_zs bX bY s j hjs n (by omega) (by omega)
      rwa [List.take_of_length_le (by omega), List.take_of_length_le (by omega)] at this
    have e2 : qS 0 (zs X Y s n) j = xorI (qS 0 X j) (qS 0 Y j) := by
      have := qS_zs bX bY s j hjs n (by omega) (by omega)
      rwa [List.take_of_length_le (by omega), List.take_of_length_le (by omega)] at this
    rw [ramekinlaw5_RsAdds.l2]
    simp only [rd_nat, sumP_len, sumQ_len, sumP_at _ hjs, sumQ_at _ hjs]
    rw [if_pos (by omega), if_pos (by omega), if_pos (by omega), if_pos (by omega), if_pos (by omega), xor_u8 (byt_pS X j bX) (byt_pS Y j bY), if_pos e1, if_pos (by omega), if_pos (by omega), if_pos (by omega),
      xor_u8 (byt_qS 0 X j bX) (byt_qS 0 Y j bY), if_pos e2, w64 (by omega) (by omega)]
    rfl
theorem adds_end (hn : 2 ≤ n) (hn14 : n ≤ 14) (hs : s ≤ 1000) : Ev (fun k => ramekinlaw5_RsAdds.l0 k (n : Int) (s : Int) X Y (zs X Y s n) (n : Int)) true := by
  refine Ev.step (f := fun k => ramekinlaw5_RsAdds.j2 k (s : Int) (sumP X s) (sumQ X s) (sumP Y s) (sumQ Y s) (sumP (zs X Y s n) s) (sumQ (zs X Y s n) s) false) (fun k => ?_) ?_
  · rw [ramekinlaw5_RsAdds.l0, if_neg (by omega), parity_s X s rX bX (by omega) (by omega) (by omega)]
    simp only [Option.bind_some]
    rw [parity_s Y s rY bY (by omega) (by omega) (by omega)]
    simp only [Option.bind_some]
    rw [parity_s (zs X Y s n) s (rows_zs X Y s n) (bytes_zs bX bY s n) (by rw [zs_len]; omega) (by rw [zs_len]; omega) (by omega)]
    simp only [Option.bind_some, sumP_len, sumQ_len, ↓reduceIte, bne_self_eq_false]
  · refine Ev.step (fun k => ?_) (adds_l2 X Y n s hX hY rX rY bX bY s 0 (by omega) (by omega) hs)
    rw [ramekinlaw5_RsAdds.j2]
    simp
theorem adds_l1 (i : Nat) (hi : i < n) (hn : n ≤ 14) (hs : s ≤ 1000) (h : Ev (fun k => ramekinlaw5_RsAdds.l0 k (n : Int) (s : Int) X Y (zs X Y s (i + 1)) ((i + 1 : Nat) : Int)) true) :
    ∀ d j, s - j = d → j ≤ s → Ev (fun k => ramekinlaw5_RsAdds.l1 k (n : Int) (s : Int) X Y (zs X Y s i) (i : Int) (zr (row X i) (row Y i) s j) (j : Int)) true
  | 0, j, hd, hj => by
    obtain rfl : j = s := by omega
    refine Ev.step (fun k => ?_) h
    rw [ramekinlaw5_RsAdds.l1, if_neg (by omega), if_pos (by rw [zs_len]; omega), w64 (by omega) (by omega), zs_succ]
    rfl
  | d + 1, j, hd, hj => by
    have hjs : j < s := by omega
    have hiX : i < X.length := by omega
    have hiY : i < Y.length := by omega
    have l1 : (row X i).length = s := by rw [row_lt hiX]; exact rX _ (List.getElem_mem hiX)
    have l2 : (row Y i).length = s := by rw [row_lt hiY]; exact rY _ (List.getElem_mem hiY)
    refine Ev.step (fun k => ?_) (adds_l1 i hi hn hs h d (j + 1) (by omega) (by omega))
    rw [ramekinlaw5_RsAdds.l1]
    simp only [rd_nat, rdL2_nat]
    rw [if_pos (by omega), if_pos (by omega), if_pos (by omega), if_pos (by omega), if_pos (by omega), if_pos (by omega), if_pos (by omega), if_pos (by rw [zr_len]; omega), xor_u8 (byt_at (bytes_row bX i) j) (byt_at (bytes_row bY i) j), Int.toNat_natCast,
      zr_set _ _ _ _ hjs, w64 (by omega) (by omega)]
    rfl
theorem adds_l0 (hn : 2 ≤ n) (hn14 : n ≤ 14) (hs : s ≤ 1000) : ∀ d i, n - i = d → i ≤ n → Ev (fun k => ramekinlaw5_RsAdds.l0 k (n : Int) (s : Int) X Y (zs X Y s i) (i : Int)) true
  | 0, i, hd, hi => by
    obtain rfl : i = n := by omega
    exact adds_end X Y i s hX hY rX rY bX bY hn hn14 hs
  | d + 1, i, hd, hi => by
    have h := adds_l1 X Y n s hX hY rX rY bX bY i (by omega) hn14 hs (adds_l0 hn hn14 hs d (i + 1) (by omega) (by omega)) s 0 (by omega) (by omega)
    refine Ev.step (fun k => ?_) h
    rw [ramekinlaw5_RsAdds.l0, if_pos (by omega), if_pos (by omega), if_pos (by simp; omega), zr_zero]
    simp
end
theorem wsum (m : Nat) (h : m < 1000) : wrap64 (2 + (m : Int)) = ((2 + m : Nat) : Int) := by rw [w64 (by omega) (by omega)]; omega
theorem RsAdds : ramekinlaw5_RsAdds.Pure := by
  intro l0 l1 a2 a3 hml hs0 hw0 hml1 hs1 hw1 w2 w3
  unfold maxLen at hml hml1
  have hl0 : l0.length ≤ 9223372036854775807 := Nat.le_trans hml (by decide)
  have hl1 : l1.length ≤ 9223372036854775807 := Nat.le_trans hml1 (by decide)
  clear hml hml1 hs0 hs1 hw0 hw1 w2 w3
  obtain ⟨m, hm1, hm2⟩ := mod_nat a2 13 (by decide)
  obtain ⟨s, hsz1, hsz2⟩ := mod_nat a3 10 (by decide)
  have h1 : 2 ≤ 2 + m := Nat.le_add_right 2 m
  have h2 : 2 + m ≤ 14 := Nat.add_le_add_left (Nat.le_of_lt_succ hm2) 2
  have h3 : s ≤ 1000 := Nat.le_trans (Nat.le_of_lt hsz2) (by decide)
  have e2 := wsum m (Nat.lt_trans hm2 (by decide))
  obtain ⟨X, hX, lX, rX, bX⟩ := rows_s l0 (2 + m) s (Nat.le_trans h2 (by decide)) h3 hl0
  obtain ⟨Y, hY, lY, rY, bY⟩ := rows_s l1 (2 + m) s (Nat.le_trans h2 (by decide)) h3 hl1
  have h := adds_l0 X Y (2 + m) s lX lY rX rY bX bY h1 h2 h3 (2 + m) 0 rfl (Nat.zero_le _)
  refine Ev.rounds (Ev.congr (f := fun k => ramekinlaw5_RsAdds.l0 k ((2 + m : Nat) : Int) (s : Int) X Y (zs X Y s 0) ((0 : Nat) : Int)) (fun k => ?_) h)
  unfold ramekinlaw5_RsAdds.f
  rw [known_s]
  simp only [Option.bind_some, ↓reduceIte]
  rw [within_s a2 13 (by decide) (by decide)]
  simp only [Option.bind_some]
  rw [within_s a3 10 (by decide) (by decide)]
  simp only [Option.bind_some]
  rw [show a2 % 13 = (m : Int) from hm1, show a3 % 10 = (s : Int) from hsz1, e2, hX]
  simp only [Option.bind_some]
  rw [hY]
  simp only [Option.bind_some]
  rfl
end Go.Proofs.Ytdbnladpogpiiaa.Pure
