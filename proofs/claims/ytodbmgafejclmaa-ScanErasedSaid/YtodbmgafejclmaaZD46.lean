/-
  Parts of a proof, laid together by a program of mine (pack.py): Hv.
-/
import Derived.Test.YtodbmgafejclmaaZD45
namespace Go.Proofs.Ytodbmgafejclmaa.Base
open Go.RowKit Go.Maps Go.Proofs.YtodbmgafejclmaaW.PrintWords Go.Proofs.YtodbmgafejclmaaW.PrintLast
set_option linter.unusedSimpArgs false
set_option linter.unusedVariables false
attribute [local go_sem] fld_super0 fld_super1
/-- rows that were written, of each one page bad at most; from the i-th on none is -/
structure MadeH (m : Nat) (R : Nat) (es : List Ent) (i : Nat) (T : List PR) : Prop where
  len : T.length = 6
  row : ∀ j, j < 6 → j < R → ∃ P : List Int, P.length ≤ 1 ∧ (i ≤ j → P = []) ∧ (∃ lim, Pc.Ok lim (m + 2) P) ∧ (pgsOf T j).map qOf = pagesQ (fullE (10 + (j : Int)) 1 j (mkS es m j (decide (j + 1 = 6))) m) P
  blank : ∀ j, j < 6 → R ≤ j → (pgsOf T j).map qOf = List.replicate (m + 2) (0, [])
theorem MadeH.of {m R : Nat} {es : List Ent} {T : List PR} (h : Made 1 m R 6 es T) : MadeH m R es 0 T :=
  ⟨h.1, fun j hj hR => ⟨[], Nat.zero_le _, fun _ => rfl, ok_nil _, h.row hj (by omega)⟩, fun j hj hR => by rw [h.2 j hj, mkRow, if_pos (by omega)]⟩
theorem MadeH.look {m R i : Nat} {es : List Ent} {T : List PR} (h : MadeH m R es i T) (hm : 4 ≤ m ∧ m ≤ 6) (hwf : ∀ e ∈ es, e.Wf) (hR : 1 ≤ R ∧ R ≤ 6) : lookP 1 T = (if R = 6 then 2 else 1, (List.range (R - 1)).map fun (j : Nat) => ((wrote es m 6 j).1, (j : Int), (wrote es m 6 j).2)) := by
  have hdec : ∀ j, j < R → (decP 1 j (pgsOf T j) 1) = (0, some (wrote es m 6 j)) ∧ stB (pgsOf T j) = true := fun j hj => by
    obtain ⟨P, p1, _, p3, p4⟩ := h.row j (by omega) hj
    refine ⟨?_, stB_row p4 (fun x hx => by obtain ⟨lim, o⟩ := p3; exact (o.2.1 x hx).1) (by rw [full_pos _ _ _ _ _ (mkS_ok hwf m _ _).1]; omega)⟩
    rw [(dec_wrote hm (by omega) hwf (by omega) p3 p4).2, if_neg (by omega)]
  have hl : lastS T = ((R - 1 : Nat) : Int) := by
    unfold lastS
    refine lastN_at (by rw [h.len]; omega) (hdec _ (by omega)).2 (fun j h1 h2 => ?_)
    rw [h.len] at h2
    exact stB_blank (h.blank j h2 (by omega))
  rw [lookP_st (by omega), hl]
  have hs : soundR 1 T (((R - 1 : Nat) : Int)).toNat = (List.range (R - 1)).map fun (j : Nat) => ((wrote es m 6 j).1, (j : Int), (wrote es m 6 j).2) := by
    rw [Int.toNat_natCast]
    exact soundR_all (fun j hj => by rw [(hdec j (by omega)).1])
  rw [hs, h.len]
  congr 1
  by_cases h6 : R = 6
  · rw [if_pos h6, if_pos]
    show (decP 1 ((5 : Nat) : Int) (pgsOf T 5) 1).1 = 0
    rw [(hdec 5 (by omega)).1]
  · rw [if_neg h6, if_neg]
    exact decP_none (a := ((5 : Nat) : Int)) (decP_zero (zs_blank (h.blank 5 (by omega) (by omega)) (by omega)))
theorem MadeH.put {m R i : Nat} {es : List Ent} {T : List PR} (h : MadeH m R es i T) (hi : i < R) (hR : R ≤ 6) {r : PR} (hr : r.2.2 = pgsOf T i) : MadeH m R es (i + 1) (T.set i r) := by
  have hT : i < T.length := by rw [h.len]; omega
  refine ⟨by rw [List.length_set]; exact h.len, fun j hj hjR => ?_, fun j hj hjR => ?_⟩
  · rw [pgsOf_set r hT, hr]
    obtain ⟨P, p1, p2, p3, p4⟩ := h.row j hj hjR
    refine ⟨P, p1, fun _ => p2 (by omega), p3, ?_⟩
    by_cases e : j = i
    · subst e; rw [if_pos rfl]; exact p4
    · rw [if_neg e]; exact p4
  · rw [pgsOf_set r hT, if_neg (by omega)]
    exact h.blank j hj hjR
theorem MadeH.bad {m R i : Nat} {es : List Ent} {T : List PR} (h : MadeH m R es i T) (hi : i < R) (hR : R ≤ 6) {r : PR} {b : Nat} (hb : b < m + 2) (hr : r.2.2 = (pgsOf T i).set b badPg) : MadeH m R es (i + 1) (T.set i r) := by
  have hT : i < T.length := by rw [h.len]; omega
  refine ⟨by rw [List.length_set]; exact h.len, fun j hj hjR => ?_, fun j hj hjR => ?_⟩
  · rw [pgsOf_set r hT, hr]
    obtain ⟨P, p1, p2, p3, p4⟩ := h.row j hj hjR
    by_cases e : j = i
    · subst e
      rw [if_pos rfl]
      obtain rfl := p2 (Nat.le_refl _)
      exact ⟨[(b : Int)], Nat.le_refl _, fun h => by omega, ok_one hb, pages_set p4 b⟩
    · rw [if_neg e]
      exact ⟨P, p1, fun _ => p2 (by omega), p3, p4⟩
  · rw [pgsOf_set r hT, if_neg (by omega)]
    exact h.blank j hj hjR
end Go.Proofs.Ytodbmgafejclmaa.Base
