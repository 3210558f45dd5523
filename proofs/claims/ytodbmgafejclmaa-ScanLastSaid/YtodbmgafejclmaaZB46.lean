/-
  Parts of a proof, laid together by a program of mine (pack.py): Ts.
-/
import Derived.Test.YtodbmgafejclmaaZB45
namespace Go.Proofs.Ytodbmgafejclmaa.Base
open Go.RowKit Go.Maps Go.Proofs.YtodbmgafejclmaaW.PrintWords Go.Proofs.YtodbmgafejclmaaW.PrintLast
set_option linter.unusedSimpArgs false
set_option linter.unusedVariables false
attribute [local go_sem] fld_super0 fld_super1
/-- what a look at so many rows written tells -/
theorem look_made {m N : Nat} {k : Nat} {es : List Ent} {T : List PR} (h : Made 1 m k N es T) (hm : 4 ≤ m ∧ m ≤ 6) (hwf : ∀ e ∈ es, e.Wf) (hN : N ≤ 8) (hN1 : 1 ≤ N) (hk : k ≤ N) :
    (lookP 1 T).1 = (if k = 0 then 0 else if k = N then 2 else 1) ∧ (lookP 1 T).2 = (List.range (k - 1)).map fun (j : Nat) => ((wrote es m N j).1, (j : Int), (wrote es m N j).2) := by
  have hl := h.last hwf ⟨by omega, by omega⟩
  by_cases h0 : k = 0
  · subst h0
    have : lookP 1 T = (0, []) := by unfold lookP; rw [if_pos (by rw [hl]; omega)]
    rw [this]
    exact ⟨rfl, rfl⟩
  · rw [lookP_st (by omega), if_neg h0, hl]
    have hs : soundR 1 T ((k : Int) - 1).toNat = (List.range (k - 1)).map fun (j : Nat) => ((wrote es m N j).1, (j : Int), (wrote es m N j).2) := by
      rw [show ((k : Int) - 1).toNat = k - 1 from by omega]
      exact soundR_all (fun j hj => by rw [(h.dec hm (by omega) hwf hN (by omega) (by omega)).2])
    refine ⟨?_, hs⟩
    show (if (decP 1 ((T.length : Int) - 1) (pgsOf T (T.length - 1)) 1).1 = 0 then 2 else 1) = _
    rw [h.1, show ((N : Int) - 1) = ((N - 1 : Nat) : Int) from by omega]
    by_cases hkN : k = N
    · rw [if_pos hkN, (h.dec hm (by omega) hwf hN (by omega) (by omega)).2]
      rfl
    · rw [if_neg hkN, if_neg]
      exact decP_none (h.blank (by omega) (by omega))
theorem pages_set {ps : List Pg} {L : List (List Int)} {P : List Int} (h : ps.map qOf = pagesQ L P) (j : Nat) : (ps.set j badPg).map qOf = pagesQ L (P ++ [(j : Int)]) := by
  rw [List.map_set, h]
  unfold pagesQ
  rw [setQ_snoc, Int.toNat_natCast]
  rfl
theorem ok_one {m j : Nat} (h : j < m) : ∃ lim, Pc.Ok lim m [(j : Int)] := ⟨1, ⟨Nat.le_refl _, ⟨fun x hx => by rw [List.mem_singleton.1 hx]; omega, List.nodup_cons.2 ⟨List.not_mem_nil, List.nodup_nil⟩⟩⟩⟩
end Go.Proofs.Ytodbmgafejclmaa.Base
