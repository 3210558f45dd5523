/-
  Parts of a proof, laid together by a program of mine (pack.py): Er.
-/
import Derived.Test.YtodbmgafejclmaaZD50
namespace Go.Proofs.Ytodbmgafejclmaa.Base
open Go.RowKit Go.Maps Go.Proofs.YtodbmgafejclmaaW.PrintWords Go.Proofs.YtodbmgafejclmaaW.PrintLast
open Go.Proofs.Ytodbmgafejclmaa.Fld Go.Proofs.Ytodbmgafejclmaa.Pl
set_option linter.unusedSimpArgs false
set_option linter.unusedVariables false
/-- a row with one payload that is wrong -/
theorem dec_wrong {u a most : Int} {L : List (List Int)} {m k : Nat} {P : List Int} {ps : List Pg} {b : List Int} {p' : Pg} (hC : Cd.Code L 48 m) (hm : 4 ≤ m ∧ m ≤ 6) (hP : Pc.Ok 1 (m + 2) P) (hk : k < m + 2) (hkP : P.contains (k : Int) = false) (h0 : (P.length : Int) ≤ most) (h2 : most ≤ 2) (hq : ps.map qOf = pagesQ L P)
    (hp' : qOf p' = (2, b)) (h48 : b.length = 48) (hb : OkB b) (hne : b ≠ row L k) : (ps.set k p').length = m + 2 ∧ decP u a (ps.set k p') most = (5, none) ∧ ∀ p ∈ ps.set k p', I64 p.1 := by
  obtain ⟨o1, o2, o3⟩ := hP
  have hin : ∀ x ∈ P, 0 ≤ x ∧ x < (L.length : Int) := fun x hx => by have := o2 x hx; have := hC.len; omega
  obtain ⟨hl, hat⟩ := pages_at hq (fun x hx => (hin x hx).1)
  have hl' : (ps.set k p').length = m + 2 := by rw [List.length_set, hl, hC.len]
  have hat' : ∀ j (hj : j < (ps.set k p').length), qOf (ps.set k p')[j] = if j = k then ((2, b) : Qg) else if P.contains (j : Int) = true then (1, []) else (2, row L j) := fun j hj => by
    rw [List.getElem_set]
    by_cases e : k = j
    · rw [if_pos e, if_pos e.symm]; exact hp'
    · rw [if_neg e, if_neg (fun h => e h.symm)]
      exact hat j (by rw [List.length_set] at hj; exact hj)
  have hst : ∀ j (hj : j < (ps.set k p').length), (ps.set k p')[j].1 = if P.contains (j : Int) = true then 1 else 2 := fun j hj => by
    have := congrArg Prod.fst (hat' j hj)
    have h3 : ((ps.set k p')[j]).1 = (qOf (ps.set k p')[j]).1 := rfl
    rw [h3, this]
    by_cases e : j = k
    · subst e
      rw [if_pos rfl, if_neg (by rw [hkP]; simp)]
    · rw [if_neg e]
      by_cases hc : P.contains (j : Int) = true
      · rw [if_pos hc, if_pos hc]
      · rw [if_neg hc, if_neg hc]
  have hlost : ∀ x, x ∈ lostG 0 (ps.set k p') ↔ x ∈ P := fun x => by
    rw [lostG_mem]
    constructor
    · rintro ⟨j, hj, e, h3⟩
      rw [Nat.zero_add] at e
      rw [hst j hj] at h3
      by_cases hc : P.contains (j : Int) = true
      · rw [e]; simpa using hc
      · rw [if_neg hc] at h3; exact absurd rfl h3
    · intro hx
      have hx0 := o2 x hx
      refine ⟨x.toNat, by omega, by omega, ?_⟩
      rw [hst, if_pos (by rw [Int.toNat_of_nonneg hx0.1]; simpa using hx)]
      decide
  have hlc : ∀ j : Nat, (lostG 0 (ps.set k p')).contains (j : Int) = P.contains (j : Int) := fun j => by
    rw [Bool.eq_iff_iff, List.contains_iff_mem, List.contains_iff_mem]; exact hlost _
  have hll : (lostG 0 (ps.set k p')).length = P.length := by
    have h1 := nodup_le (lostG_nodup (ps.set k p') 0) (fun x hx => (hlost x).1 hx)
    have h2 := nodup_le o3 (fun x hx => (hlost x).2 hx)
    omega
  have hby : ∀ j (hj : j < (ps.set k p').length), (ps.set k p')[j].2.2.2 = if j = k then b else if P.contains (j : Int) = true then [] else row L j := fun j hj => by
    have := congrArg Prod.snd (hat' j hj)
    have h3 : ((ps.set k p')[j]).2.2.2 = (qOf (ps.set k p')[j]).2 := rfl
    rw [h3, this]
    by_cases e : j = k
    · rw [if_pos e, if_pos e]
    · rw [if_neg e, if_neg e]
      split <;> rfl
  have hrow : ∀ j, j < m + 2 → row (pgB (ps.set k p')) j = if j = k then b else if P.contains (j : Int) = true then [] else row L j := fun j hj => by
    rw [row_lt (by unfold pgB; rw [List.length_map]; omega)]
    simp only [pgB, List.getElem_map]
    exact hby j (by omega)
  have hf : fine48 (ps.set k p') := fun p hp h3 => by
    obtain ⟨j, hj, rfl⟩ := List.getElem_of_mem hp
    rw [hst j hj] at h3
    rw [hby j hj]
    by_cases e : j = k
    · rw [if_pos e]; exact h48
    · rw [if_neg e]
      by_cases hc : P.contains (j : Int) = true
      · rw [if_pos hc] at h3; exact absurd h3 (by decide)
      · rw [if_neg hc]; exact (Tw.good_row hC.good (i := j) (by have := hC.len; omega)).1
  have hbs : ∀ p ∈ ps.set k p', OkB p.2.2.2 := fun p hp => by
    obtain ⟨j, hj, rfl⟩ := List.getElem_of_mem hp
    rw [hby j hj]
    split
    · exact hb
    · split
      · intro x hx; cases hx
      · exact (Tw.good_row hC.good (i := j) (by have := hC.len; omega)).2
  have hz : zs (ps.set k p') = 0 := zs_zero (fun j hj => by
    rw [hst j hj]
    split
    · show ¬ ((1 : Int) = 0); omega
    · show ¬ ((2 : Int) = 0); omega)
  have hw := fix_wrong (ps := ps.set k p') hC (by omega) (by omega) hl' hf hbs hk (by omega) (by rw [hlc]; exact hkP) (fun j hj hjk hc => by rw [hlc] at hc; rw [hrow j hj, if_neg hjk, if_neg (by rw [hc]; simp)]) (by rw [hrow k hk, if_pos rfl]; exact hne)
  refine ⟨hl', ?_, fun p hp => ?_⟩
  · rw [decP_of (by omega) (by omega) (by omega) h2 hz, hll, if_neg (by omega)]
    exact decL_bad hw
  · obtain ⟨j, hj, rfl⟩ := List.getElem_of_mem hp
    rw [hst j hj]
    split
    · exact (⟨by omega, by omega⟩ : I64 1)
    · exact (⟨by omega, by omega⟩ : I64 2)
section
variable {u : Int} {m N k : Nat} {es : List Ent} {ps : List Pg}
/-- a row whose first page is some data, or bad, and of which another page may be bad, is read as it was, or not at all -/
theorem dec_first {D : List Int} {A : Option Addr} {c : Nat} (hm : 4 ≤ m ∧ m ≤ 6) (hu : 0 ≤ u ∧ u ≤ 255) (hwf : ∀ e ∈ es, e.Wf) (hk : k ≤ 100) (hD : D.length = 48) (hDb : OkB D)
    (h : ps.map qOf = pagesQ (fullE (10 + k) u k (mkS es m k (decide (k + 1 = N))) m) []) :
    (∀ j, 0 < j → j < m + 2 → ((decP u k ((ps.set 0 (2, A, c, D)).set j badPg) 1).2 = none ∨ (decP u k ((ps.set 0 (2, A, c, D)).set j badPg) 1).2 = some (wrote es m N k))) ∧
    ((decP u k (ps.set 0 (2, A, c, D)) 1).2 = none ∨ (decP u k (ps.set 0 (2, A, c, D)) 1).2 = some (wrote es m N k)) := by
  have hC := code_full (10 + (k : Int)) u k (mkS es m k (decide (k + 1 = N))) m (mkS_ok hwf m k _).1
  have hl : ps.length = m + 2 := (dec_wrote (N := N) hm hu hwf hk (ok_nil _) h).1
  by_cases hDe : D = row (fullE (10 + (k : Int)) u k (mkS es m k (decide (k + 1 = N))) m) 0
  · have h0 : (ps.set 0 (2, A, c, D)).map qOf = pagesQ (fullE (10 + k) u k (mkS es m k (decide (k + 1 = N))) m) [] := by
      rw [List.map_set, h]
      apply List.ext_getElem?
      intro j
      rw [List.getElem?_set]
      split
      · rename_i e
        subst e
        have := pages_at h (fun x hx => (List.not_mem_nil hx).elim)
        have h9 := this.2 0 (by omega)
        rw [if_pos (by rw [pagesQ_len, hC.len]; omega), pagesQ_at (fun x hx => (List.not_mem_nil hx).elim) (by rw [hC.len]; omega), if_neg (by simp), ← hDe]
        rfl
      · rfl
    refine ⟨fun j hj0 hj => .inr ?_, .inr ?_⟩
    · rw [(dec_wrote hm hu hwf hk (ok_one hj) (pages_set h0 j)).2, if_neg (by simp)]
    · rw [(dec_wrote hm hu hwf hk (ok_nil _) h0).2, if_neg (by simp)]
  · refine ⟨fun j hj0 hj => .inl ?_, .inl ?_⟩
    · have h1 := pages_set h j
      have := (dec_wrong (u := u) (a := k) (most := 1) (k := 0) (P := [(j : Int)]) (p' := (2, A, c, D)) (b := D) hC hm ⟨Nat.le_refl _, fun x hx => by rw [List.mem_singleton.1 hx]; omega, List.nodup_cons.2 ⟨List.not_mem_nil, List.nodup_nil⟩⟩ (by omega) (by simp; omega) (by simp) (by omega) h1 rfl hD hDb hDe).2.1
      rw [List.set_comm _ _ (show 0 ≠ j by omega), this]
    · have := (dec_wrong (u := u) (a := k) (most := 1) (k := 0) (P := []) (p' := (2, A, c, D)) (b := D) hC hm ⟨Nat.zero_le _, fun x hx => (List.not_mem_nil hx).elim, List.nodup_nil⟩ (by omega) (by simp) (by simp) (by omega) h rfl hD hDb hDe).2.1
      rw [this]
theorem dec_first_bad (hm : 4 ≤ m ∧ m ≤ 6) (hu : 0 ≤ u ∧ u ≤ 255) (hwf : ∀ e ∈ es, e.Wf) (hk : k ≤ 100) (h : ps.map qOf = pagesQ (fullE (10 + k) u k (mkS es m k (decide (k + 1 = N))) m) []) :
    (∀ j, 0 < j → j < m + 2 → ((decP u k ((ps.set 0 badPg).set j badPg) 1).2 = none ∨ (decP u k ((ps.set 0 badPg).set j badPg) 1).2 = some (wrote es m N k))) ∧
    ((decP u k (ps.set 0 badPg) 1).2 = none ∨ (decP u k (ps.set 0 badPg) 1).2 = some (wrote es m N k)) := by
  have h0 := pages_set h 0
  refine ⟨fun j hj0 hj => .inl ?_, .inr ?_⟩
  · rw [(dec_wrote hm hu hwf hk (ok_two (i := 0) (j := j) (by omega) hj (by omega)) (pages_set h0 j)).2, if_pos (by simp)]
  · rw [(dec_wrote hm hu hwf hk (ok_one (j := 0) (by omega)) h0).2, if_neg (by simp)]
end
end Go.Proofs.Ytodbmgafejclmaa.Base
