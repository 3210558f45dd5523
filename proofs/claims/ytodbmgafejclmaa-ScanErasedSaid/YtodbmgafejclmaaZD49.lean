/-
  Parts of a proof, laid together by a program of mine (pack.py): Dt.
-/
import Derived.Test.YtodbmgafejclmaaZD48
namespace Go.Proofs.Ytodbmgafejclmaa.Dat
open Go.RowKit Go.Proofs.YtodbmgafejclmaaW.PrintWords Go.Proofs.YtodbmgafejclmaaW.PrintLast Go.Proofs.Ytodbmgafejclmaa.PRd Go.Proofs.Ytodbmgafejclmaa.Fld Go.Proofs.Ytodbmgafejclmaa.Pl
set_option linter.unusedSimpArgs false
set_option linter.unusedVariables false
def Bytes (r : List Int) : Prop := ∀ x ∈ r, Byt x
theorem data_l0 (l0 : List Int) (n : Nat) (hn : n ≤ 1000000) (hl : l0.length ≤ 9223372036854775807) : ∀ d j (D : List Int), n - j = d → j ≤ n → D.length = n → Bytes D → ∃ D', Ev (fun k => ramekinlaw4_Data.l0 k l0 (n : Int) D (j : Int)) D' ∧ D'.length = n ∧ Bytes D'
  | 0, j, D, hd, hj, hD, hB => by
    refine ⟨D, Ev.step (f := fun _ => some D) (fun k => ?_) (Ev.now _), hD, hB⟩
    rw [ramekinlaw4_Data.l0, if_neg (by omega)]
  | d + 1, j, D, hd, hj, hD, hB => by
    by_cases h0 : l0.length = 0
    · refine ⟨D, Ev.step (f := fun _ => some D) (fun k => ?_) (Ev.now _), hD, hB⟩
      rw [ramekinlaw4_Data.l0, if_pos (by omega), if_neg (by omega)]
    · obtain ⟨v, hv⟩ : ∃ v, v = (((rd l0 (Int.tmod (j : Int) (l0.length : Int))) + ((wrap64 (Int.tdiv (j : Int) (l0.length : Int))) % 256)) % 256) := ⟨_, rfl⟩
      have hvb : Byt v := by rw [hv]; exact ⟨Int.emod_nonneg _ (by omega), Int.emod_lt_of_pos _ (by omega)⟩
      obtain ⟨D', h1, h2, h3⟩ := data_l0 l0 n hn hl d (j + 1) (D.set j v) (by omega) (by omega) (by simp [hD]) (by
        intro x hx
        rcases List.mem_or_eq_of_mem_set hx with hx | rfl
        · exact hB x hx
        · exact hvb)
      refine ⟨D', Ev.step (fun k => ?_) h1, h2, h3⟩
      have t1 : 0 ≤ Int.tmod (j : Int) (l0.length : Int) := Int.tmod_nonneg _ (by omega)
      have t2 : Int.tmod (j : Int) (l0.length : Int) < (l0.length : Int) := Int.tmod_lt_of_pos _ (by omega)
      rw [ramekinlaw4_Data.l0, if_pos (by omega), if_pos (by omega), if_neg (by omega), if_pos t1, if_pos t2, if_pos (by omega), if_pos (by omega), w64 (n := (j : Int) + 1) (by omega) (by omega), ← hv]
      rfl
theorem data_ev (l0 : List Int) (n : Nat) (hn : n ≤ 1000000) (hl : l0.length ≤ 9223372036854775807) : ∃ D, Ev (fun k => ramekinlaw4_Data.f k l0 (n : Int)) D ∧ D.length = n ∧ Bytes D := by
  obtain ⟨D, h1, h2, h3⟩ := data_l0 l0 n hn hl n 0 (List.replicate n 0) (by omega) (by omega) (by simp) (by intro x hx; rw [List.mem_replicate] at hx; rw [hx.2]; exact byt_zero)
  refine ⟨D, Ev.congr (fun k => ?_) h1, h2, h3⟩
  rw [ramekinlaw4_Data.f, if_pos (by omega), if_pos (by simp; omega)]
  rfl
end Go.Proofs.Ytodbmgafejclmaa.Dat
namespace Go.Proofs.Ytodbmgafejclmaa.Base
open Go.RowKit Go.Proofs.YtodbmgafejclmaaW.PrintWords Go.Proofs.YtodbmgafejclmaaW.PrintLast
theorem data_any (A : Option Addr) (c n : Nat) (bs : List Int) (w : World) (hn : n = bs.length) (hc : n ≤ c) (hl : n ≤ 9223372036854775807) (hs : Sl w 0 w.heap.size 1 A (By bs)) : ∃ D : List Int, D.length = 48 ∧ OkB D ∧ ∀ w', Below w.heap.size w w' →
    Calls Try.prog 13 #[.slice A n c, .int .i64 48] w' fun x w2 => ∃ A' c', x = .returned (.slice A' 48 c') ∧ 48 ≤ c' ∧ Sl w2 w'.heap.size w2.heap.size 1 A' (By D) ∧ (∀ a, A' = some a → w'.heap.size ≤ a.block ∧ a.block < w2.heap.size) ∧ Below w'.heap.size w' w2 := by
  subst hn
  obtain ⟨D, hD, hDl, hDb⟩ := Dat.data_ev bs 48 (by omega) hl
  obtain ⟨k, hk⟩ := hD.rounds
  refine ⟨D, hDl, hDb, fun w' hb => (PRd.ramekinlaw4_Data.calls k A c bs 48 D w' (C_of_by hl ((hs.below hb).more hb.size)) hc hk).mono ?_⟩
  rintro e w2 ⟨v, rfl, hR, hB⟩
  obtain ⟨A', c', rfl, hc', hs', hblk⟩ := by_of_R hR
  rw [hDl] at hc'
  exact ⟨A', c', by rw [hDl], hc', hs', hblk, hB⟩
end Go.Proofs.Ytodbmgafejclmaa.Base
