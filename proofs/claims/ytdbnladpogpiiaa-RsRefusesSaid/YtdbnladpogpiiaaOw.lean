/-
  rs.own: rows of their own.
-/
import Derived.Test.YtdbnladpogpiiaaTw
import Derived.Test.YtdbnladpogpiiaaKp
namespace Go.Proofs.Ytdbnladpogpiiaa.Ow
open Go.RowKit Go.Proofs.YtdbnladpogpiiaaW.PrintWords
open Go.Proofs.Ytdbnladpogpiiaa.PRq Go.Proofs.Ytdbnladpogpiiaa.Fld Go.Proofs.Ytdbnladpogpiiaa.Pl Go.Proofs.Ytdbnladpogpiiaa.Ot Go.Proofs.Ytdbnladpogpiiaa.Tw Go.Proofs.Ytdbnladpogpiiaa.Kp
set_option linter.unusedSimpArgs false
set_option linter.unusedVariables false
theorem info_byte : (Try.prog.info? 5).map (fun i => (i.zero, i.size, i.bytes)) = some (some (.int .u8 0), 1, 1) := by kernel_rfl
def oR (L : List (List Int)) (lost : List Int) (n i : Nat) : List Int := if lost.contains (i : Int) then List.replicate n 0 else row L i
def rowsAt (L : List (List Int)) (lost : List Int) (n j : Nat) : List (List Int) := (List.range L.length).map fun i => if i < j then oR L lost n i else []
theorem rowsAt_len (L : List (List Int)) (lost : List Int) (n j : Nat) : (rowsAt L lost n j).length = L.length := by simp [rowsAt]
theorem rowsAt_all (L : List (List Int)) (lost : List Int) (n : Nat) : rowsAt L lost n L.length = ownR L lost n := by
  apply List.ext_getElem (by simp [rowsAt, ownR])
  intro i h1 h2
  rw [rowsAt_len] at h1
  simp [rowsAt, ownR, oR, h1, row]
theorem rowsAt_set (L : List (List Int)) (lost : List Int) (n j : Nat) (hj : j < L.length) : (rowsAt L lost n j).set j (oR L lost n j) = rowsAt L lost n (j + 1) := by
  apply List.ext_getElem (by simp [rowsAt])
  intro i h1 h2
  rw [rowsAt_len] at h2
  rw [List.getElem_set]
  split
  · rename_i e; subst e; simp [rowsAt]
  · rename_i e
    simp only [rowsAt, List.getElem_map, List.getElem_range]
    by_cases h : i < j
    · rw [if_pos h, if_pos (by omega)]
    · rw [if_neg h, if_neg (by omega)]
theorem rowsAt_zero (L : List (List Int)) (lost : List Int) (n : Nat) : rowsAt L lost n 0 = List.replicate L.length [] := by
  apply List.ext_getElem (by simp [rowsAt])
  intro i h1 h2
  simp [rowsAt]
theorem made_one (v : Value) (n : Nat) : (madeCells #[v] n).toList = List.replicate n v := by
  exact toList_madeCells_one v n
theorem out_new {W : World} {base G n : Nat} (h : W.ownsRow base 22 1 (.slice (some ⟨G, 0, none⟩) n n) n (List.replicate n (.slice none 0 0))) (hn : n ≤ 1000000) : Out W base G (List.replicate n (.slice none 0 0)) (List.replicate n []) := by
  refine ⟨by rw [List.length_replicate]; exact h, fun i h r h1 h2 => ?_, fun i j h g k hij hi hj he => ?_, by rw [List.length_replicate]; exact hn⟩
  · rw [List.getElem?_replicate] at h1 h2
    split at h1
    · rename_i hl
      rw [if_pos hl] at h2
      cases h1
      cases h2
      exact own_nil _ _ _ _
    · cases h1
  · rw [List.getElem?_replicate] at hi
    split at hi
    · cases hi
      cases he
    · cases hi
set_option maxRecDepth 100000 in
set_option maxHeartbeats 2000000 in
theorem own_any (A A' : Option Addr) (c c' n : Nat) (L : List (List Int)) (lost : List Int) (w : World) (hm : L.length ≤ 1000000) (hm' : lost.length ≤ 1000000) (hn : n ≤ 1000000) (hr : Kd.C (Kd.slice 5 (Kd.int .u8)) w A L.length L) (ho : Kd.C (Kd.int .i64) w A' lost.length lost) (hc' : lost.length ≤ c')
    (hk : ∀ i : Nat, i < L.length → lost.contains (i : Int) = false → (row L i).length = n) :
    Calls Try.prog 32 #[.slice A L.length c, .slice A' lost.length c', .int .i64 (n : Int)] w fun e w' => ∃ G hs, e = .returned (.slice (some ⟨G, 0, none⟩) L.length L.length) ∧ Out w' w.heap.size G hs (ownR L lost n) ∧ Below w.heap.size w w' := by
  obtain ⟨i0, hi0, hz00, hz01, hz02⟩ := info_parts info_row
  obtain ⟨i1, hi1, hz10, hz11, hz12⟩ := info_parts info_byte
  have HR := Lib.hid hr
  have HO := Lib.hid ho
  have HK := Lib.hid hk
  clear hr ho hk
  go_enter Try.func32, Try.ntmps32
  go_wp2_with (at_make; refine wpList_make_full w rfl _ _ 25 rfl w.heap.size 22 i0 (.slice none 0 0) 1 Try.underlying25 hi0 hz00 hz01 .i64 .i64 _ _ L.length rfl rfl rfl rfl (by rw [hz02]; omega) (by unfold maxLen; omega) (Nat.le_refl _) ?_; intro w1 how1 hgr1)
  have O1 : Out w1 w.heap.size w.heap.size (List.replicate L.length (.slice none 0 0)) (rowsAt L lost n 0) := by
    rw [rowsAt_zero]
    refine out_new ?_ hm
    have := how1
    simpa [toList_madeCells_one, Value.cells] using this
  have B1 : Below w.heap.size w w1 := Below.grown (Below.refl _ _) hgr1 (Nat.le_refl _) (fun k e => by cases e)
  go_loopw [15] (fun i wr => ∃ (j : Nat) (hs : List Value), i = .int .i64 j ∧ j ≤ L.length ∧ Hid (Out wr w.heap.size w.heap.size hs (rowsAt L lost n j)) ∧ Hid (Below w.heap.size w wr)) (fun i _ => L.length - (intOf i).toNat)
  case atStart => exact ⟨0, _, rfl, Nat.zero_le _, Lib.hid O1, Lib.hid B1⟩
  case round =>
    clear O1 B1 how1 hgr1
    obtain ⟨j, hs, rfl, hj, HOut, HB⟩ := hrel
    by_cases hjl : j < L.length
    · obtain ⟨ad, e, hx, hxc, hxC⟩ := hdr_at HR.out j hjl
      subst e
      have hx2 : wr.cell? (ad.add j) = some (hdr w (some ad) L j) := pw_cell_below HB.out hx
      have HXC := Lib.hid hxC
      clear hx hxC
      have hxe : hdr w (some ad) L j = .slice (fA w (some ad) j) (row L j).length (fc w (some ad) j) := rfl
      rw [hxe] at hx2
      clear hxe
      generalize fA w (some ad) j = A3 at hx2 hxc HXC
      generalize fc w (some ad) j = c3 at hx2 hxc HXC
      have hfz := HOut.out.frozen j
      have hcl := HOut.out.len
      have hrl := rowsAt_len L lost n j
      obtain ⟨hz, hzi⟩ := HOut.out.get (i := j) (by rw [hrl]; exact hjl)
      have HZI := Lib.hid hzi
      clear hcl hrl hzi
      have hB := HB.out.size
      go_wp2_with (at_make; refine wpList_make_full wr rfl _ _ 22 rfl wr.heap.size 5 i1 (.int .u8 0) 1 Try.underlying22 hi1 hz10 hz11 .i64 .i64 _ _ n rfl rfl rfl rfl (by rw [hz12]; omega) (by unfold maxLen; omega) (Nat.le_refl _) ?_; intro w2 how2 hgr2; have O2 := Lib.hid (HOut.out.below (Below.grown (Below.refl _ _) hgr2 (Nat.le_refl _) (fun k e => by cases e))); have hz2 := O2.out.cell HZI.out; have hf2 := O2.out.frozen j)
      have hrl := rowsAt_len L lost n j
      have br2 : BR w2 w.heap.size (.slice (some ⟨wr.heap.size, 0, none⟩) n n) (List.replicate n 0) := by
        have h1 := own_weaken how2 hB
        unfold BR encs
        rw [List.length_replicate]
        simpa [toList_madeCells_one, Value.cells] using h1
      have O3 := Lib.hid (O2.out.set (i := j) (v := .slice (some ⟨wr.heap.size, 0, none⟩) n n) (by rw [hrl]; exact hjl) br2 (fun i g k hi hg h2 => by
        have h4 : i < hs.length := (List.getElem?_eq_some_iff.1 hi).1
        have h5 := HOut.out.len
        have h6 := own_lt (HOut.out.row i g _ hi (List.getElem?_eq_getElem (by omega))) k hg
        have h7 : wr.heap.size = k := by simpa [Value.ownBlock] using h2
        omega))
      have B3 := Lib.hid ((HB.out.grown hgr2 (by omega) (fun k e => by cases e)).setCell (p := ⟨w.heap.size, j, none⟩) (Nat.le_refl _) (.slice (some ⟨wr.heap.size, 0, none⟩) n n))
      have IA := Lib.hid (show (hs.set j (.slice (some ⟨wr.heap.size, 0, none⟩) n n))[j]? = some (.slice (some ⟨wr.heap.size, 0, none⟩) n n) from by
        have h5 := HOut.out.len
        rw [List.getElem?_set_self (by omega)])
      clear hz2 hf2 br2 hfz how2 hrl
      obtain ⟨w3, hw3⟩ : ∃ w3, w2.setCell ⟨w.heap.size, j, none⟩ (.slice (some ⟨wr.heap.size, 0, none⟩) n n) = w3 := ⟨_, rfl⟩
      rw [hw3] at O3 B3 ⊢
      clear hw3
      have hcon := Lib.hid (contains_any A' lost.length c' lost (j : Int) w3 rfl hm' (Kd.C_below HO.out B3.out) hc')
      by_cases hc : lost.contains (j : Int) = true
      · have HS := Lib.hid (show (rowsAt L lost n j).set j (List.replicate n 0) = rowsAt L lost n (j + 1) from by rw [← rowsAt_set L lost n j hjl, oR, if_pos hc])
        rw [HS.out] at O3
        refine hcon.out.mono ?_
        rintro e w4 ⟨rfl, q, rfl⟩
        rw [hc]
        clear hc
        go_wp2_with fail
        go_roundw
        case rel => exact ⟨j + 1, _, by simp, by omega, Lib.hid (O3.out.below (pw_below_drewN (Below.refl _ _) q)), Lib.hid (pw_below_drewN B3.out q)⟩
        case measure => simp [intOf]; omega
      · have hcf := Bool.eq_false_iff.2 hc
        have HS := Lib.hid (show (rowsAt L lost n j).set j (row L j) = rowsAt L lost n (j + 1) from by rw [← rowsAt_set L lost n j hjl, oR, if_neg hc])
        have hkl := HK.out j hjl hcf
        refine hcon.out.mono ?_
        rintro e w4 ⟨rfl, q, rfl⟩
        rw [hcf]
        clear hc hcf
        have O4 := Lib.hid (O3.out.below (pw_below_drewN (Below.refl _ _) q))
        have B4 := Lib.hid (pw_below_drewN B3.out q)
        have ca := O4.out.cell IA.out
        clear O3 B3
        have brow := Lib.hid (O4.out.row j _ (List.replicate n 0) IA.out (by rw [List.getElem?_set_self (by rw [rowsAt_len]; exact hjl)]))
        have HC4 := Lib.hid (Kd.C_below HXC.out B4.out)
        have HRO := Lib.hid (brow.out.R (ok := fun _ => True) (fun _ _ => trivial))
        have HC5 := Lib.hid (show Kd.C (Kd.int .u8) (w3.drewN q) A3 n (row L j) from by have := HC4.out; rwa [hkl] at this)
        have HIN : (Try.prog.info? 5).map (·.size) = some 1 := by kernel_rfl
        go_wp2_with ((with_reducible show wpList _ _ _ _ _ _); refine Kd.R_copy (o := ⟨some 34, _, _, _, _, _⟩) (enc := Value.int .u8) (h1 := fun _ => rfl) (0 : Int) (w0 := w) w.heap.size rfl (.tmp 32) (.tmp 33) 22 22 5 rfl Try.underlying22 HIN (.slice (some ⟨wr.heap.size, 0, none⟩) n n) (List.replicate n 0) (row L j) A3 n c3 (fun _ => True) rfl rfl HRO.out HC5.out B4.out B4.out.size ?_; intro w5 h51 h52 h53)
        have hrow5 : BR w5 w.heap.size (.slice (some ⟨wr.heap.size, 0, none⟩) n n) (row L j) := by
          have h6 := BR.of h51
          rw [List.length_replicate, Nat.min_self, List.drop_eq_nil_of_le (by rw [List.length_replicate]; exact Nat.le_refl _), List.append_nil, List.take_of_length_le (by rw [hkl]; exact Nat.le_refl _)] at h6
          exact h6
        have O5 := Lib.hid (O4.out.put IA.out (Kept.of_grown h53 (Kept.refl _ _) (fun k e => .inl e.symm)) hrow5)
        clear h51 hrow5
        rw [List.set_set, HS.out] at O5
        go_wp2_with fail
        go_roundw
        case rel => exact ⟨j + 1, _, by simp, by omega, O5, Lib.hid h52⟩
        case measure => simp [intOf]; omega
    · have e : j = L.length := by omega
      subst e
      go_wp2_with fail
      go_ret
      rw [rowsAt_all] at HOut
      exact ⟨_, _, rfl, HOut.out, HB.out⟩
end Go.Proofs.Ytdbnladpogpiiaa.Ow

