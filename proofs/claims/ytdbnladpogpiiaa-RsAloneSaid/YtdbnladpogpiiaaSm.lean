/-
  ramekinlaw5.same: are two rows of rows the same?
-/
import Derived.Test.YtdbnladpogpiiaaPRqx0
import Derived.Test.YtdbnladpogpiiaaFx
import Derived.Lib.Hide
import Derived.Lib.Bytes
namespace Go.Proofs.Ytdbnladpogpiiaa.Sm
open Go.RowKit Go.Proofs.YtdbnladpogpiiaaW.PrintWords Go.Proofs.YtdbnladpogpiiaaW.PrintLast Go.Proofs.YtdbnladpogpiiaaW.PrintMore Go.Proofs.Ytdbnladpogpiiaa.PRq Go.Proofs.Ytdbnladpogpiiaa.Fld
set_option linter.unusedSimpArgs false
set_option linter.unusedVariables false
def BytL (l : List (List Int)) : Prop := ∀ r ∈ l, ∀ x ∈ r, 0 ≤ x ∧ x < 256
theorem row_in {L : List (List Int)} {j : Nat} (h : j < L.length) : row L j = L[j] := by unfold row; simp [h]
theorem strOfNums_inj {a b : List Int} (ha : ∀ x ∈ a, 0 ≤ x ∧ x < 256) (hb : ∀ x ∈ b, 0 ≤ x ∧ x < 256) (h : (strOfNums a).toList = (strOfNums b).toList) : a = b := by
  rw [Lib.strOfNums_toList, Lib.strOfNums_toList] at h
  have hl : a.length = b.length := by have := congrArg List.length h; simpa [Lib.bytesOf] using this
  apply List.ext_getElem hl
  intro k h1 h2
  have h3 := congrArg (fun l => l[k]?) h
  simp only [Lib.bytesOf, List.getElem?_map, List.getElem?_eq_getElem h1, List.getElem?_eq_getElem h2, Option.map_some, Option.some.injEq] at h3
  have h4 := congrArg UInt8.toNat h3
  simp only [UInt8.toNat_ofNat'] at h4
  have ha1 := ha _ (List.getElem_mem h1)
  have hb1 := hb _ (List.getElem_mem h2)
  omega
set_option maxHeartbeats 1000000 in
theorem same_calls (A0 : Option Addr) (c0 : Nat) (l0 : List (List Int)) (A1 : Option Addr) (c1 : Nat) (l1 : List (List Int)) (w : World) (hr0 : Kd.C (Kd.slice 5 (Kd.int .u8)) w A0 l0.length l0) (hr1 : Kd.C (Kd.slice 5 (Kd.int .u8)) w A1 l1.length l1)
    (b0 : BytL l0) (b1 : BytL l1) (n0 : l0.length ≤ 1000000) (n1 : l1.length ≤ 1000000) :
    Calls Try.prog 23 #[.slice A0 l0.length c0, .slice A1 l1.length c1] w fun e w' => e = .returned (.bool (decide (l0 = l1))) ∧ Drawn0 w w' := by
  by_cases hlen : l0.length = l1.length
  · have Hlen := Lib.hid hlen
    have HR0 := Lib.hid hr0
    have HR1 := Lib.hid hr1
    have HB0 := Lib.hid b0
    have HB1 := Lib.hid b1
    clear b0 b1 hr0 hr1
    have hbe : ((l0.length : Int) != (l1.length : Int)) = false := by rw [hlen]; simp
    clear hlen
    go_enter Try.func23, Try.ntmps23
    go_wp2
    go_loopw [5] (fun i wr => ∃ j : Nat, j ≤ l0.length ∧ i = .int .i64 j ∧ Hid (∀ k, k < j → row l0 k = row l1 k) ∧ ∃ m, wr = w.drewN m) (fun i _ => l0.length - (intOf i).toNat)
    case atStart => exact ⟨0, Nat.zero_le _, rfl, fun k hk => by omega, 0, rfl⟩
    case round =>
      obtain ⟨j, hj, rfl, hrow, m, rfl⟩ := hrel
      by_cases hjl : j < l0.length
      · obtain ⟨ad0, A0', c0', e0, hx0, hl0, hi0⟩ := at_L1 HR0.out (j : Int) (by omega) (by omega)
        obtain ⟨ad1, A1', c1', e1, hx1, hl1, hi1⟩ := at_L1 HR1.out (j : Int) (by omega) (by have := Hlen.out; omega)
        subst e0 e1
        have hj1 : (j : Int) < (l1.length : Int) := by have := Hlen.out; omega
        have r0 : rd_L1 l0 (j : Int) = row l0 j := by unfold rd_L1 row; simp
        have r1 : rd_L1 l1 (j : Int) = row l1 j := by unfold rd_L1 row; simp
        rw [r0] at hx0 hi0 hl0
        rw [r1] at hx1 hi1 hl1
        clear r0 r1
        have hcv0 := fun n => Kd.C_string (P := Try.prog) (A := A0') (c := c0') Try.underlying22 Try.underlying5 Try.underlying9 (Kd.C_drewN hi0 n)
        have hcv1 := fun n => Kd.C_string (P := Try.prog) (A := A1') (c := c1') Try.underlying22 Try.underlying5 Try.underlying9 (Kd.C_drewN hi1 n)
        simp only [Int.toNat_natCast] at hx0 hx1
        clear hi0 hi1 hl0 hl1
        by_cases heq : row l0 j = row l1 j
        · have ht : ((strOfNums (row l0 j)).toList == (strOfNums (row l1 j)).toList) = true := by rw [heq]; simp
          have Heq := Lib.hid heq
          clear heq
          go_wp2_with fail
          go_quiet (fail)
          go_wp2
          refine ⟨⟨j + 1, by omega, by simp, fun k hk => ?_, m + nq, by first | rfl | exact World.drewN_drewN _ _ _⟩, by simp [intOf]; omega⟩
          by_cases e : k = j
          · subst e; exact Heq.out
          · exact hrow.out k (by omega)
        · have ht : ((strOfNums (row l0 j)).toList == (strOfNums (row l1 j)).toList) = false := by
            rw [beq_eq_false_iff_ne]
            intro h
            apply heq
            refine strOfNums_inj ?_ ?_ h
            · rw [row_in hjl]; exact HB0.out _ (List.getElem_mem hjl)
            · have hj2 : j < l1.length := by omega
              rw [row_in hj2]; exact HB1.out _ (List.getElem_mem hj2)
          have hd : decide (l0 = l1) = false := by
            rw [decide_eq_false_iff_not]
            intro e
            exact heq (by rw [e])
          have Hd := Lib.hid hd
          clear heq hd
          go_wp2_with fail
          go_quiet (fail)
          go_wp2
          go_ret
          rw [Hd.out]
          exact ⟨rfl, ⟨⟨m + nq, by first | rfl | exact World.drewN_drewN _ _ _⟩⟩⟩
      · have hd : decide (l0 = l1) = true := by
          rw [decide_eq_true_iff]
          apply List.ext_getElem Hlen.out
          intro k h1 h2
          rw [← row_in h1, ← row_in h2]
          exact hrow.out k (by omega)
        have Hd := Lib.hid hd
        clear hd
        go_wp2
        go_ret
        rw [Hd.out]
        exact ⟨rfl, ⟨⟨m, rfl⟩⟩⟩
  · have hbe : ((l0.length : Int) != (l1.length : Int)) = true := by rw [bne_iff_ne]; omega
    have hd : decide (l0 = l1) = false := by
      rw [decide_eq_false_iff_not]
      intro e
      exact hlen (by rw [e])
    have Hd := Lib.hid hd
    clear hd hlen b0 b1 hr0 hr1
    go_enter Try.func23, Try.ntmps23
    go_wp2
    go_ret
    rw [Hd.out]
    exact ⟨rfl, Drawn0.refl _⟩
end Go.Proofs.Ytdbnladpogpiiaa.Sm
