/-
  RsBounds, plainly.
-/
import Derived.Test.YtdbnladpogpiiaaPRux2
import Derived.Test.YtdbnladpogpiiaaCo
namespace Go.Proofs.Ytdbnladpogpiiaa.Pure
open Go.RowKit Go.Proofs.Ytdbnladpogpiiaa.PRu Go.Proofs.YtdbnladpogpiiaaW.PrintWords Go.Proofs.YtdbnladpogpiiaaW.PrintLast Go.Proofs.Ytdbnladpogpiiaa.Fld Go.Proofs.Ytdbnladpogpiiaa.Pl Go.Proofs.Ytdbnladpogpiiaa.Ot Go.Proofs.Ytdbnladpogpiiaa.Kp Go.Proofs.Ytdbnladpogpiiaa.Fw Go.Proofs.Ytdbnladpogpiiaa.Co
set_option linter.unusedSimpArgs false
set_option linter.unusedVariables false
theorem ub_known : ramekinlaw5_known.f = some true := Lim.lim_ev (fun k => PRq.ramekinlaw5_known.mono k) known_ev
theorem ub_within (a n : Int) (hn : 1 ≤ n) (hn2 : n ≤ 4611686018427387904) : ramekinlaw5_within.f a n = some (a % n) := within_f a n hn hn2
theorem ub_rows (l0 : List Int) (m s : Nat) (hm : m ≤ 1000) (hs : s ≤ 1000) (hl : l0.length ≤ 9223372036854775807) : ∃ L, ramekinlaw5_Rows.f l0 (m : Int) (s : Int) = some L ∧ L.length = m ∧ (∀ r ∈ L, r.length = s) ∧ (∀ r ∈ L, Bytes r) := by
  obtain ⟨L, h, h2⟩ := rows_ev l0 m s hm hs hl
  exact ⟨L, Lim.lim_ev (fun k => PRq.ramekinlaw5_Rows.mono _ _ _ k) h, h2⟩
theorem ub_parity (L : List (List Int)) (n : Nat) (hn : ∀ r ∈ L, r.length = n) (hL : ∀ r ∈ L, Bytes r) (h2 : 2 ≤ L.length) (h14 : L.length ≤ 14) (hn2 : n ≤ 281474976710656) : rs_Parity.f L = some (sumP L n, sumQ L n) :=
  Lim.lim_ev (fun k => PRq.rs_Parity.mono _ k) (parity_ev L n hn hL h2 h14 hn2)
theorem ub_parity0 (L : List (List Int)) (hm : L.length ≤ 1000000) (h : L.length < 2 ∨ 14 < L.length) : rs_Parity.f L = some ([], []) := Lim.lim_ev (fun k => PRq.rs_Parity.mono _ k) (parity_bad L hm h)
theorem ub_check (L : List (List Int)) (hm : L.length ≤ 1000000) (h : L.length < 4 ∨ 16 < L.length ∨ alikeR L = false) : rs_Check.f L = some false := Lim.lim_ev (fun k => PRr.rs_Check.mono _ k) (check_bad L hm h)
theorem ub_same (L : List (List Int)) (hb : ∀ r ∈ L, Bytes r) (hm : L.length ≤ 1000000) : ramekinlaw5_same.f L L = some true := by
  unfold ramekinlaw5_same.f
  rw [if_pos ⟨fun r hr x hx => hb r hr x hx, fun r hr x hx => hb r hr x hx, hm, hm⟩, decide_eq_true rfl]
theorem ub_mod (a : Int) (n : Nat) (hn : 1 ≤ n) : ∃ m : Nat, a % (n : Int) = (m : Int) ∧ m < n := by
  have h2 := Int.emod_nonneg a (b := (n : Int)) (by omega)
  have h3 := Int.emod_lt_of_pos a (b := (n : Int)) (by omega)
  exact ⟨(a % (n : Int)).toNat, by omega, by omega⟩

/-- the rows with one made longer -/
theorem longer (L : List (List Int)) (m s k : Nat) (hm : L.length = m) (h4 : 4 ≤ m) (h16 : m ≤ 16) (hs : s ≤ 1000) (hk : k < m) (hn : ∀ r ∈ L, r.length = s) (hb : ∀ r ∈ L, Bytes r) :
    (∀ r ∈ L.set k (row L k ++ [7]), Bytes r) ∧ (∀ r ∈ L.set k (row L k ++ [7]), r.length ≤ 1000000) ∧ alikeR (L.set k (row L k ++ [7])) = false ∧ mayB (L.set k (row L k ++ [7])) [] = false ∧ mayB (L.set k (row L k ++ [7])) [(k : Int)] = true := by
  have hkL : k < L.length := by omega
  have rk : (row L k).length = s := by rw [row_lt hkL]; exact hn _ (List.getElem_mem hkL)
  have bk : Bytes (row L k) := by rw [row_lt hkL]; exact hb _ (List.getElem_mem hkL)
  obtain ⟨Y, hY⟩ : ∃ Y, L.set k (row L k ++ [7]) = Y := ⟨_, rfl⟩
  have yl : Y.length = m := by rw [← hY, List.length_set]; exact hm
  have yk : row Y k = row L k ++ [7] := by rw [← hY]; exact Tw.row_set_self hkL _
  have yo : ∀ j, j ≠ k → row Y j = row L j := fun j hj => by rw [← hY]; exact Tw.row_set_ne (Ne.symm hj) _
  have hal : alikeR Y = false := by
    rw [Bool.eq_false_iff]
    intro h
    have h1 := alike_len h
    obtain ⟨j, hj, hjk⟩ : ∃ j, j < m ∧ j ≠ k := by
      by_cases h0 : k = 0
      · exact ⟨1, by omega, by omega⟩
      · exact ⟨0, by omega, by omega⟩
    have h2 := h1 (row Y k) (by rw [row_lt (by omega)]; exact List.getElem_mem _)
    have h3 := h1 (row Y j) (by rw [row_lt (by omega)]; exact List.getElem_mem _)
    have h4 : (row L j).length = s := by rw [row_lt (by omega)]; exact hn _ (List.getElem_mem _)
    rw [yk, List.length_append, rk, List.length_singleton] at h2
    rw [yo j hjk, h4] at h3
    omega
  rw [hY]
  refine ⟨?_, ?_, hal, ?_, ?_⟩
  · rw [← hY]
    intro r hr
    rcases List.mem_or_eq_of_mem_set hr with hr | rfl
    · exact hb r hr
    · intro x hx
      rcases List.mem_append.1 hx with hx | hx
      · exact bk x hx
      · rw [List.mem_singleton.1 hx]; exact ⟨by omega, by omega⟩
  · rw [← hY]
    intro r hr
    rcases List.mem_or_eq_of_mem_set hr with hr | rfl
    · rw [hn r hr]; omega
    · rw [List.length_append, rk, List.length_singleton]; omega
  · unfold mayB
    rw [kept_nil, hal]
    simp
  · have hka : alikeR (kept Y [(k : Int)]) = true := by
      refine alikeR_of (n := s) ?_
      rw [kept_idx]
      intro r hr
      obtain ⟨j, hj, rfl⟩ := List.mem_map.1 hr
      have hjl := idx_lt hj
      have hjk : j ≠ k := by
        rintro rfl
        unfold idx at hj
        rw [List.mem_filter] at hj
        simp at hj
      rw [yo j hjk, row_lt (by omega)]
      exact hn _ (List.getElem_mem _)
    rw [mayB_of (by omega) (by omega) (by simp) (fun j h => by
      obtain rfl : j = 0 := by simp at h; omega
      simp only [List.getElem_cons_zero]
      omega) (by simp)]
    exact hka
theorem RsBounds : ramekinlaw5_RsBounds.Pure := by
  intro a0 a1 a2 w0 w1 w2
  obtain ⟨m, em, hm⟩ := ub_mod a0 20 (by omega)
  obtain ⟨s, es, hs⟩ := ub_mod a1 5 (by omega)
  obtain ⟨L, hL, hlen, hrow, hB⟩ := ub_rows [1, 2, 3] m s (by omega) (by omega) (by simp)
  have hfix := fixF_of (lost := []) hB (fun r hr => by rw [hrow r hr]; omega) (by simp) (by omega)
  rw [mayB_nil L s hrow, hlen, fixR_nil] at hfix
  have hfix2 : rs_Fix.f L [] = if (decide (4 ≤ m) && decide (m ≤ 16)) = true then some (L, true) else some ([], false) := hfix
  have hsame := ub_same L hB (by omega)
  have j1 : ∀ k, 1 ≤ k → ramekinlaw5_RsBounds.j1 (k + 1) (m : Int) a2 L false = some true := by
    intro k hk
    obtain ⟨k, rfl⟩ : ∃ q, k = q + 1 := ⟨k - 1, by omega⟩
    have out : (m < 4 ∨ 16 < m) → ramekinlaw5_RsBounds.j2 (k + 1) (m : Int) a2 L true = some true := fun h => by
      rw [ramekinlaw5_RsBounds.j2, if_pos rfl, ub_check L (by omega) (by rw [hlen]; rcases h with h | h; exact .inl h; exact .inr (.inl h))]
      rfl
    rw [ramekinlaw5_RsBounds.j1, if_neg (by simp)]
    by_cases h4 : m < 4
    · rw [if_pos (by omega)]
      exact out (.inl h4)
    · rw [if_neg (by omega)]
      by_cases h16 : 16 < m
      · rw [decide_eq_true (by omega)]
        exact out (.inr h16)
      · obtain ⟨q, eq, hq⟩ := ub_mod a2 m (by omega)
        obtain ⟨y1, y2, y3, y4, y5⟩ := longer L m s q hlen (by omega) (by omega) (by omega) hq hrow hB
        have yl : (L.set q (row L q ++ [7])).length = m := by rw [List.length_set]; exact hlen
        have f1 : rs_Fix.f (L.set q (row L q ++ [7])) [] = some ([], false) := by
          have := fixF_of (lost := []) y1 y2 (by simp) (by omega)
          rw [y4] at this
          exact this
        have f2 : rs_Fix.f (L.set q (row L q ++ [7])) [(q : Int)] = some (fixR (L.set q (row L q ++ [7])) [(q : Int)], true) := by
          have := fixF_of (lost := [(q : Int)]) y1 y2 (by simp) (by omega)
          rw [y5] at this
          exact this
        have rq : rd_L2 L (q : Int) = row L q := by unfold rd_L2 row; simp
        have rl : (row L q).length = s := by rw [row_lt (by omega)]; exact hrow _ (List.getElem_mem _)
        rw [decide_eq_false (by omega), ramekinlaw5_RsBounds.j2, if_neg (by simp), ub_within a2 m (by omega) (by omega), eq]
        simp only [Option.bind_some]
        rw [if_pos (by omega), if_pos (by omega), rq, if_pos (by rw [rl]; simp; omega)]
        simp only [List.nil_append, Int.toNat_natCast]
        rw [if_pos (by rw [rl]; omega), f1]
        simp only [Option.bind_some]
        rw [f2]
        simp only [Option.bind_some]
        rw [if_neg (by simp), if_pos trivial, ub_check _ (by omega) (.inr (.inr y3))]
        rfl
  refine ⟨4, ?_⟩
  rw [ramekinlaw5_RsBounds.f, ub_known]
  simp only [Option.bind_some, ↓reduceIte]
  rw [ub_within a0 20 (by omega) (by omega), ub_within a1 5 (by omega) (by omega)]
  simp only [Option.bind_some]
  rw [show a0 % 20 = (m : Int) from em, show a1 % 5 = (s : Int) from es, hL]
  simp only [Option.bind_some]
  have hpar : ∃ p q : List Int, rs_Parity.f L = some (p, q) ∧ ((2 ≤ m ∧ m ≤ 14) ∧ p.length = s ∧ q.length = s ∨ (m < 2 ∨ 14 < m) ∧ p = [] ∧ q = []) := by
    by_cases h : 2 ≤ m ∧ m ≤ 14
    · exact ⟨_, _, ub_parity L s hrow hB (by omega) (by omega) (by omega), .inl ⟨h, sumP_len _ _, sumQ_len _ _⟩⟩
    · exact ⟨_, _, ub_parity0 L (by omega) (by omega), .inr ⟨by omega, rfl, rfl⟩⟩
  obtain ⟨p, q, hp, hpq⟩ := hpar
  rw [hp]
  simp only [Option.bind_some]
  rw [hfix2]
  have fin : ∀ (X : List (List Int)) (fine : Bool), (fine = true → X = L) → ramekinlaw5_RsBounds.j0 4 (m : Int) (s : Int) a2 L p q X fine fine = some true := by
    intro X fine hX
    have tail : (if (fine != fine) = true then (ramekinlaw5_RsBounds.j1 3 (m : Int) a2 L true) else (if fine = true then ((ramekinlaw5_same.f X L).bind fun t => (ramekinlaw5_RsBounds.j1 3 (m : Int) a2 L (!t))) else (ramekinlaw5_RsBounds.j1 3 (m : Int) a2 L false))) = some true := by
      rw [if_neg (by simp)]
      by_cases hf : fine = true
      · rw [if_pos hf, hX hf, hsame]
        exact j1 2 (by omega)
      · rw [if_neg hf]
        exact j1 2 (by omega)
    rw [ramekinlaw5_RsBounds.j0]
    rcases hpq with ⟨⟨h2, h14⟩, hp1, hq1⟩ | ⟨hn, rfl, rfl⟩
    · by_cases h0 : (p.length : Int) > 0
      · rw [if_pos h0, if_neg (by omega), if_neg (by omega), if_pos (by omega), if_pos (by omega), if_pos (by omega), if_pos (by omega)]
        exact tail
      · rw [if_neg h0, if_pos (by omega), if_pos (by omega), if_pos (by omega), if_pos (by omega)]
        exact tail
    · rw [if_neg (by simp)]
      rcases hn with hn | hn
      · rw [if_neg (by omega)]
        exact tail
      · rw [if_pos (by omega), if_neg (by omega)]
        exact tail
  by_cases h4 : 4 ≤ m
  · by_cases h16 : m ≤ 16
    · rw [if_pos (by simp [h4, h16])]
      simp only [Option.bind_some]
      rw [if_pos (by omega), decide_eq_true (by omega)]
      exact fin L true (fun _ => rfl)
    · rw [if_neg (by simp [h16])]
      simp only [Option.bind_some]
      rw [if_pos (by omega), decide_eq_false (by omega)]
      exact fin [] false (fun h => by cases h)
  · rw [if_neg (by simp [h4])]
    simp only [Option.bind_some]
    rw [if_neg (by omega)]
    exact fin [] false (fun h => by cases h)
end Go.Proofs.Ytdbnladpogpiiaa.Pure
