/-
  Parts of a proof, laid together by a program of mine (pack.py): Ms.
-/
import Derived.Test.YtodbmgafejclmaaZD41
namespace Go.Proofs.Ytodbmgafejclmaa.Base
open Go.RowKit
set_option linter.unusedSimpArgs false
set_option linter.unusedVariables false
theorem stB_q (ps : List Pg) : stB ps = (ps.map qOf).any fun q => decide (q.1 ≠ 0) := by
  unfold stB
  rw [List.any_map]
  rfl
theorem stB_row {ps : List Pg} {L : List (List Int)} {l : List Int} (h : ps.map qOf = pagesQ L l) (h0 : ∀ x ∈ l, 0 ≤ x) (hL : 0 < L.length) : stB ps = true := by
  obtain ⟨hl, hat⟩ := pages_at h h0
  have h1 := hat 0 (by omega)
  unfold stB
  rw [List.any_eq_true]
  refine ⟨ps[0], List.getElem_mem _, ?_⟩
  have h2 : (ps[0]'(by omega)).1 = (qOf (ps[0]'(by omega))).1 := rfl
  rw [h2, h1]
  split <;> simp
theorem stB_blank {ps : List Pg} {n : Nat} (h : ps.map qOf = List.replicate n (0, [])) : stB ps = false := by
  rw [stB_q, h, List.any_eq_false]
  intro q hq
  rw [List.eq_of_mem_replicate hq]
  simp
theorem decP_zero {s a most : Int} {ps : List Pg} (h : 0 < zs ps) : (decP s a ps most).2 = none := by
  unfold decP
  split
  · rfl
  · rw [if_pos (.inl h)]
theorem decP_none {s a most : Int} {ps : List Pg} (h : (decP s a ps most).2 = none) : (decP s a ps most).1 ≠ 0 := by
  have := decP_form s a ps most
  unfold DF at this
  rw [h] at this
  exact this
theorem zs_blank {ps : List Pg} {n : Nat} (h : ps.map qOf = List.replicate n (0, [])) (hn : 0 < n) : 0 < zs ps := by
  rw [zs_q, h]
  simp [List.map_replicate, List.count_replicate_self, hn]
/-- the last one of a number that is so -/
theorem lastN_at {f : Nat → Bool} : ∀ {n m : Nat}, m < n → f m = true → (∀ j, m < j → j < n → f j = false) → lastN f n = m
  | 0, m, h, _, _ => by omega
  | n + 1, m, h, hm, ho => by
    unfold lastN
    by_cases e : m = n
    · subst e; rw [if_pos hm]
    · rw [if_neg (by rw [ho n (by omega) (by omega)]; simp), lastN_at (by omega) hm (fun j h1 h2 => ho j h1 (by omega))]
theorem lastN_no {f : Nat → Bool} : ∀ {n : Nat}, (∀ j, j < n → f j = false) → lastN f n = -1
  | 0, _ => rfl
  | n + 1, ho => by unfold lastN; rw [if_neg (by rw [ho n (by omega)]; simp), lastN_no (fun j h => ho j (by omega))]
/-- so many rows are there, as they were -/
theorem soundR_all {s : Int} {T : List PR} {f : Nat → Int × List Ent} : ∀ {n : Nat}, (∀ k, k < n → (decP s k (pgsOf T k) 1).2 = some (f k)) → soundR s T n = (List.range n).map fun (k : Nat) => ((f k).1, (k : Int), (f k).2)
  | 0, _ => rfl
  | n + 1, h => by
    rw [soundR, soundR_all (fun k hk => h k (by omega)), h n (by omega), List.range_succ, List.map_append]
    rfl
theorem soundR_none {s : Int} {T : List PR} : ∀ {n : Nat}, (∀ k, k < n → (decP s k (pgsOf T k) 1).2 = none) → soundR s T n = []
  | 0, _ => rfl
  | n + 1, h => by rw [soundR, soundR_none (fun k hk => h k (by omega)), h n (by omega)]; rfl
/-- each row is there as it was, or not at all -/
theorem soundR_some {s : Int} {T : List PR} {f : Nat → Int × List Ent} : ∀ {n : Nat}, (∀ k, k < n → (decP s k (pgsOf T k) 1).2 = none ∨ (decP s k (pgsOf T k) 1).2 = some (f k)) → ∀ r ∈ soundR s T n, ∃ k, k < n ∧ r = ((f k).1, (k : Int), (f k).2)
  | 0, _, r, hr => by cases hr
  | n + 1, h, r, hr => by
    rw [soundR] at hr
    rcases List.mem_append.1 hr with h1 | h1
    · obtain ⟨k, hk, e⟩ := soundR_some (fun k hk => h k (by omega)) r h1
      exact ⟨k, by omega, e⟩
    · rcases h n (by omega) with h2 | h2
      · rw [h2] at h1; cases h1
      · rw [h2] at h1
        exact ⟨n, by omega, List.mem_singleton.1 h1⟩
theorem pgsOf_set {T : List PR} {k : Nat} (r : PR) (hk : k < T.length) (j : Nat) : pgsOf (T.set k r) j = if j = k then r.2.2 else pgsOf T j := by
  unfold pgsOf
  rw [List.getD_eq_getElem?_getD, List.getD_eq_getElem?_getD, List.getElem?_set]
  by_cases h : k = j
  · subst h; rw [if_pos rfl, if_pos rfl, if_pos hk]; rfl
  · rw [if_neg h, if_neg (fun e => h e.symm)]
/-- rows as Make makes them -/
def Made (u : Int) (m : Nat) (R : Int) (N : Nat) (es : List Ent) (T : List PR) : Prop := T.length = N ∧ ∀ k, k < N → (pgsOf T k).map qOf = mkRow u m R N es k
noncomputable def wrote (es : List Ent) (m N k : Nat) : Int × List Ent := (10 + k, mkS es m k (decide (k + 1 = N)))
theorem full_pos (s u a : Int) (es : List Ent) (n : Nat) (h : ∀ e ∈ es, e.Wf) : (fullE s u a es n).length = n + 2 := (full_fit s u a es n h).1
section
variable {u R : Int} {m N : Nat} {es : List Ent} {T : List PR}
/-- a row that was written, of which some pages are bad -/
theorem dec_wrote {ps : List Pg} {P : List Int} {k : Nat} (hm : 4 ≤ m ∧ m ≤ 6) (hu : 0 ≤ u ∧ u ≤ 255) (hwf : ∀ e ∈ es, e.Wf) (hk : k ≤ 100) (hP : ∃ lim, Pc.Ok lim (m + 2) P) (h : ps.map qOf = pagesQ (fullE (10 + k) u k (mkS es m k (decide (k + 1 = N))) m) P) :
    ps.length = m + 2 ∧ decP u k ps 1 = if (1 : Int) < P.length then (11, none) else (0, some (wrote es m N k)) := by
  have h1 := decP_back (most := 1) hm ⟨by omega, by omega⟩ hu ⟨by omega, by omega⟩ (mkS_ok hwf m k (decide (k + 1 = N))).1 (mkS_ok hwf m k (decide (k + 1 = N))).2 hP (by omega) (by omega) h
  refine ⟨h1.1, ?_⟩
  rw [h1.2]
  have : padE (mkS es m k (decide (k + 1 = N))) m = mkS es m k (decide (k + 1 = N)) := by
    have := padE_self (mkS es m k (decide (k + 1 = N)))
    rwa [mkS_len] at this
  rw [this]
  rfl
theorem Made.row (h : Made u m R N es T) {k : Nat} (hk : k < N) (hR : ¬ R ≤ (k : Int)) : (pgsOf T k).map qOf = pagesQ (fullE (10 + k) u k (mkS es m k (decide (k + 1 = N))) m) [] := by
  rw [h.2 k hk, mkRow, if_neg hR]
theorem ok_nil (m : Nat) : ∃ lim, Pc.Ok lim m [] := ⟨0, ⟨Nat.le_refl _, ⟨fun x hx => (List.not_mem_nil hx).elim, List.nodup_nil⟩⟩⟩
theorem Made.dec (h : Made u m R N es T) (hm : 4 ≤ m ∧ m ≤ 6) (hu : 0 ≤ u ∧ u ≤ 255) (hwf : ∀ e ∈ es, e.Wf) (hN : N ≤ 8) {k : Nat} (hk : k < N) (hR : ¬ R ≤ (k : Int)) : (pgsOf T k).length = m + 2 ∧ decP u k (pgsOf T k) 1 = (0, some (wrote es m N k)) := by
  have := dec_wrote hm hu hwf (by omega) (ok_nil _) (h.row hk hR)
  exact this
theorem Made.st (h : Made u m R N es T) (hwf : ∀ e ∈ es, e.Wf) {k : Nat} (hk : k < N) : stB (pgsOf T k) = decide ((k : Int) < R) := by
  by_cases hR : R ≤ (k : Int)
  · rw [stB_blank (n := m + 2) (by rw [h.2 k hk, mkRow, if_pos hR]), decide_eq_false (by omega)]
  · rw [stB_row (h.row hk hR) (fun x hx => (List.not_mem_nil hx).elim) (by rw [full_pos _ _ _ _ _ (mkS_ok hwf m k _).1]; omega), decide_eq_true (by omega)]
theorem Made.blank (h : Made u m R N es T) {s : Int} {k : Nat} (hk : k < N) (hR : R ≤ (k : Int)) : (decP s k (pgsOf T k) 1).2 = none := decP_zero (zs_blank (n := m + 2) (by rw [h.2 k hk, mkRow, if_pos hR]) (by omega))
/-- the last row that is started -/
theorem Made.last (h : Made u m R N es T) (hwf : ∀ e ∈ es, e.Wf) (hR : 0 ≤ R ∧ R ≤ N) : lastS T = R - 1 := by
  unfold lastS
  by_cases h0 : R = 0
  · rw [lastN_no]
    · omega
    · intro j hj
      rw [h.1] at hj
      rw [h.st hwf hj, decide_eq_false (by omega)]
  · rw [lastN_at (m := (R - 1).toNat)]
    · omega
    · rw [h.1]; omega
    · rw [h.st hwf (by omega), decide_eq_true (by omega)]
    · intro j h1 h2
      rw [h.1] at h2
      rw [h.st hwf (by omega), decide_eq_false (by omega)]
end
theorem lookP_st {s : Int} {T : List PR} (h : 0 ≤ lastS T) : lookP s T = (if (decP s ((T.length : Int) - 1) (pgsOf T (T.length - 1)) 1).1 = 0 then 2 else 1, soundR s T (lastS T).toNat) := by
  unfold lookP
  rw [if_neg (by omega)]
end Go.Proofs.Ytodbmgafejclmaa.Base
