/-
  Parts of a proof, laid together by a program of mine (pack.py): Dp.
-/
import Derived.Test.YtodbmgafejclmaaZD38
namespace Go.Proofs.Ytodbmgafejclmaa.Base
open Go.RowKit Go.Maps Go.Proofs.YtodbmgafejclmaaW.PrintWords Go.Proofs.YtodbmgafejclmaaW.PrintLast
open Go.Proofs.Ytodbmgafejclmaa.Fld Go.Proofs.Ytodbmgafejclmaa.Pl Go.Proofs.Ytodbmgafejclmaa.Kp Go.Proofs.Ytodbmgafejclmaa.Fw Go.Proofs.Ytodbmgafejclmaa.Co Go.Proofs.Ytodbmgafejclmaa.Cw Go.Proofs.Ytodbmgafejclmaa.Cd Go.Proofs.Ytodbmgafejclmaa.Rf
set_option linter.unusedSimpArgs false
set_option linter.unusedVariables false
theorem leN_leI (n : Int) : ∀ k : Nat, leN (leI n k) = (IntKind.u64.wrap n).toNat % 256 ^ k
  | 0 => by simp [leI, leN, Nat.mod_one]
  | k + 1 => by
    rw [leI_succ, leN_snoc, leN_leI n k, leI_len]
    have h0 : 0 ≤ IntKind.u64.wrap n := by
      have : IntKind.u64.wrap n = n % 18446744073709551616 := rfl
      omega
    obtain ⟨u, hu⟩ := Int.eq_ofNat_of_zero_le h0
    have hb : (byteI n k).toNat = u / 256 ^ k % 256 := by
      unfold byteI
      rw [hu, show (2 : Int) ^ (8 * k) = ((2 ^ (8 * k) : Nat) : Int) from (Int.natCast_pow 2 (8 * k)).symm, ← pow_256, ← Int.natCast_ediv, show (256 : Int) = ((256 : Nat) : Int) from rfl, ← Int.natCast_emod, Int.toNat_natCast]
    rw [hb, hu, Int.toNat_natCast, Nat.pow_succ, Nat.mod_mul, Nat.mul_comm]
theorem wrap_leI {n : Int} (h : I64 n) : wrap64 (leN (leI n 8)) = n := by
  rw [leN_leI]
  unfold I64 at h
  have e : IntKind.u64.wrap n = n % 18446744073709551616 := rfl
  rw [e]
  have h1 := Int.emod_nonneg n (b := 18446744073709551616) (by omega)
  have h2 := Int.emod_lt_of_pos n (b := 18446744073709551616) (by omega)
  rw [Nat.mod_eq_of_lt (by omega), Int.toNat_of_nonneg h1, ← i64_w, IntKind.wrap_i64]
  omega
theorem rawB_parts (H : List Int) (x1 x2 x3 k : Int) (L S D Z : List Int) (hH : H.length = 8) (hL : L.length = 8) (hS : S.length = 8) (hD : D.length = 16) :
    (rawB H x1 x2 x3 k L S D Z).take 8 = H ∧ at_ (rawB H x1 x2 x3 k L S D Z) 8 = x1 ∧ at_ (rawB H x1 x2 x3 k L S D Z) 9 = x2 ∧ at_ (rawB H x1 x2 x3 k L S D Z) 10 = x3 ∧ at_ (rawB H x1 x2 x3 k L S D Z) 11 = k ∧
    ((rawB H x1 x2 x3 k L S D Z).drop 12).take 8 = L ∧ ((rawB H x1 x2 x3 k L S D Z).drop 20).take 8 = S ∧ ((rawB H x1 x2 x3 k L S D Z).drop 28).take 16 = D ∧ (rawB H x1 x2 x3 k L S D Z).drop 44 = Z := by
  have d8 : (rawB H x1 x2 x3 k L S D Z).drop 8 = x1 :: x2 :: x3 :: k :: (L ++ (S ++ (D ++ Z))) := by unfold rawB; rw [← hH, List.drop_left]
  have d12 : (rawB H x1 x2 x3 k L S D Z).drop 12 = L ++ (S ++ (D ++ Z)) := by
    rw [show 12 = 8 + 4 from rfl, ← List.drop_drop, d8]; rfl
  have d20 : (rawB H x1 x2 x3 k L S D Z).drop 20 = S ++ (D ++ Z) := by
    rw [show 20 = 12 + 8 from rfl, ← List.drop_drop, d12, ← hL, List.drop_left]
  have d28 : (rawB H x1 x2 x3 k L S D Z).drop 28 = D ++ Z := by
    rw [show 28 = 20 + 8 from rfl, ← List.drop_drop, d20, ← hS, List.drop_left]
  have d44 : (rawB H x1 x2 x3 k L S D Z).drop 44 = Z := by
    rw [show 44 = 28 + 16 from rfl, ← List.drop_drop, d28, ← hD, List.drop_left]
  have at8 : ∀ j, at_ (rawB H x1 x2 x3 k L S D Z) (8 + j) = at_ ((rawB H x1 x2 x3 k L S D Z).drop 8) j := fun j => by
    unfold at_
    rw [List.getD_eq_getElem?_getD, List.getD_eq_getElem?_getD, List.getElem?_drop]
  refine ⟨by unfold rawB; rw [← hH, List.take_left], ?_, ?_, ?_, ?_, ?_, ?_, ?_, d44⟩
  · have := at8 0; rw [d8] at this; exact this
  · have := at8 1; rw [d8] at this; exact this
  · have := at8 2; rw [d8] at this; exact this
  · have := at8 3; rw [d8] at this; exact this
  · rw [d12, ← hL, List.take_left]
  · rw [d20, ← hS, List.take_left]
  · rw [d28, ← hD, List.take_left]
theorem datL_dataL (e : Ent) : datL (dataL e) = e.d := by
  funext i
  unfold datL dataL
  rw [List.getD_eq_getElem?_getD, List.getElem?_ofFn, dif_pos i.2]
  rfl
/-- a slot's bytes are read as they were written -/
theorem parse_bytes {s u a i : Int} {e : Ent} (hs : 1 ≤ s ∧ s ≤ 1099511627776) (hu : 0 ≤ u ∧ u ≤ 255) (ha : 0 ≤ a ∧ a ≤ 255) (hi : 0 ≤ i ∧ i ≤ 255) (hok : OkE e) (hwf : e.Wf) : parseB (bytesE s u a i e) = some (⟨s, u, a, i⟩, e) := by
  have hk := hok
  obtain ⟨k0, k3, _, _⟩ := hk
  have er : bytesE s u a i e = rawB (leI s 8) u a i e.k (leI e.l 8) (leI e.s 8) (dataL e) [0, 0, 0, 0] := by
    unfold bytesE rawB
    rw [Int.emod_eq_of_lt hu.1 (by omega), Int.emod_eq_of_lt ha.1 (by omega), Int.emod_eq_of_lt hi.1 (by omega), Int.emod_eq_of_lt k0 (by omega)]
    simp only [List.append_assoc, List.singleton_append, List.cons_append, List.nil_append]
  obtain ⟨p1, p2, p3, p4, p5, p6, p7, p8, p9⟩ := rawB_parts (leI s 8) u a i e.k (leI e.l 8) (leI e.s 8) (dataL e) [0, 0, 0, 0] (leI_len _ _) (leI_len _ _) (leI_len _ _) (dataL_len e)
  rw [er]
  unfold parseB
  rw [p1, p2, p3, p4, p5, p6, p7, p8, p9, wrap_leI (n := s) ⟨by omega, by omega⟩]
  have ee : rawE e.k (leI e.l 8) (leI e.s 8) (dataL e) = e := by
    unfold rawE
    rw [wrap_leI hwf.2.1, wrap_leI hwf.2.2.1, datL_dataL]
  rw [ee, if_pos]
  exact ⟨fun z hz => by simpa using hz, hs, hok⟩
def padE (es : List Ent) (n : Nat) : List Ent := (List.range n).map fun i => es.getD i zeroE
theorem okE_zero : OkE zeroE := by unfold OkE zeroE; simp
theorem getD_ok {es : List Ent} (h : ∀ e ∈ es, OkE e) (i : Nat) : OkE (es.getD i zeroE) := by
  rw [List.getD_eq_getElem?_getD]
  cases hi : es[i]? with
  | none => exact okE_zero
  | some e => exact h e (List.mem_of_getElem? hi)
theorem slot_range (s u a : Int) (es : List Ent) (hs : 1 ≤ s ∧ s ≤ 1099511627776) (hu : 0 ≤ u ∧ u ≤ 255) (ha : 0 ≤ a ∧ a ≤ 255) (hok : ∀ e ∈ es, OkE e) (hwf : ∀ e ∈ es, e.Wf) :
    ∀ (m i : Nat) (ser : Int) (acc : List Ent), i + m ≤ 256 → (i ≠ 0 → ser = s) → slotL u a i ser ((List.range' i m).map fun (j : Nat) => bytesE s u a (j : Int) (es.getD j zeroE)) acc = some (if m = 0 then ser else s, acc ++ (List.range' i m).map fun j => es.getD j zeroE)
  | 0, i, ser, acc, _, _ => by simp [slotL]
  | m + 1, i, ser, acc, h, hi => by
    have hp := parse_bytes (s := s) (u := u) (a := a) (i := (i : Int)) hs hu ha ⟨by omega, by omega⟩ (getD_ok hok i) (getD_wf hwf i)
    have hser : (if i = 0 then s else ser) = s := by
      by_cases h0 : i = 0
      · rw [if_pos h0]
      · rw [if_neg h0, hi h0]
    rw [List.range'_succ, List.map_cons, List.map_cons, slotL, hp]
    simp only
    rw [hser, if_pos rfl, slot_range s u a es hs hu ha hok hwf m (i + 1) s (acc ++ [es.getD i zeroE]) (by omega) (fun _ => rfl)]
    simp
theorem slot_rows {s u a : Int} {es : List Ent} {n : Nat} (hs : 1 ≤ s ∧ s ≤ 1099511627776) (hu : 0 ≤ u ∧ u ≤ 255) (ha : 0 ≤ a ∧ a ≤ 255) (hok : ∀ e ∈ es, OkE e) (hwf : ∀ e ∈ es, e.Wf) (h1 : 1 ≤ n) (h : n ≤ 256) : slotL u a 0 0 (rowsE s u a es n) [] = some (s, padE es n) := by
  have := slot_range s u a es hs hu ha hok hwf n 0 0 [] (by omega) (fun h => absurd rfl h)
  rw [if_neg (by omega), List.nil_append] at this
  unfold rowsE padE
  rw [List.range_eq_range']
  exact this
theorem zs_q (ps : List Pg) : zs ps = ((ps.map qOf).map (·.1)).count 0 := by unfold zs; rw [List.map_map]; rfl
theorem setQ_at (l : List Int) (z : Qg) : ∀ (q : List Qg) (j : Nat), j < q.length → (∀ x ∈ l, 0 ≤ x) → (setQ q l z)[j]? = if l.contains (j : Int) = true then some z else q[j]? := by
  induction l with
  | nil => intro q j _ _; rfl
  | cons x l ih =>
    intro q j hj h0
    have hx := h0 x (by simp)
    show (setQ (q.set x.toNat z) l z)[j]? = _
    rw [ih _ j (by rw [List.length_set]; exact hj) (fun y hy => h0 y (by simp [hy])), List.contains_cons]
    by_cases hc : l.contains (j : Int) = true
    · rw [if_pos hc, hc, Bool.or_true, if_pos rfl]
    · rw [if_neg hc, Bool.eq_false_iff.2 hc, Bool.or_false]
      by_cases e : (j : Int) = x
      · rw [if_pos (by simpa using e), show x.toNat = j from by omega, List.getElem?_set_self (by exact hj)]
      · rw [if_neg (by simpa using e), List.getElem?_set_ne (by omega)]
theorem pagesQ_len (L : List (List Int)) (l : List Int) : (pagesQ L l).length = L.length := by unfold pagesQ; rw [setQ_len, List.length_map]
theorem pagesQ_at {L : List (List Int)} {l : List Int} (h0 : ∀ x ∈ l, 0 ≤ x) {j : Nat} (hj : j < L.length) : (pagesQ L l)[j]? = some (if l.contains (j : Int) = true then ((1, []) : Qg) else (2, row L j)) := by
  unfold pagesQ
  rw [setQ_at l _ _ j (by rw [List.length_map]; exact hj) h0]
  split
  · rfl
  · rw [List.getElem?_map, List.getElem?_eq_getElem hj, row_lt hj]; rfl
/-- what the pages of a row are, some of them lost: each by its place -/
theorem pages_at {ps : List Pg} {L : List (List Int)} {l : List Int} (h : ps.map qOf = pagesQ L l) (h0 : ∀ x ∈ l, 0 ≤ x) : ps.length = L.length ∧ ∀ j (hj : j < ps.length), qOf ps[j] = if l.contains (j : Int) = true then ((1, []) : Qg) else (2, row L j) := by
  have hl : ps.length = L.length := by have := congrArg List.length h; rwa [List.length_map, pagesQ_len] at this
  refine ⟨hl, fun j hj => ?_⟩
  have : (ps.map qOf)[j]? = (pagesQ L l)[j]? := by rw [h]
  rw [pagesQ_at h0 (by omega), List.getElem?_map, List.getElem?_eq_getElem hj] at this
  simpa using this
theorem nodup_le : ∀ {l m : List Int}, l.Nodup → (∀ x ∈ l, x ∈ m) → l.length ≤ m.length
  | [], m, _, _ => Nat.zero_le _
  | x :: l, m, hn, hs => by
    have hx := hs x (by simp)
    obtain ⟨h1, h2⟩ := List.nodup_cons.1 hn
    have := nodup_le (m := m.erase x) h2 (fun y hy => (List.mem_erase_of_ne (a := y) (b := x) (fun e => h1 (by rw [← e]; exact hy))).2 (hs y (by simp [hy])))
    rw [List.length_erase_of_mem hx] at this
    have := List.length_pos_of_mem hx
    simp only [List.length_cons]
    omega
theorem lost_pages {ps : List Pg} {L : List (List Int)} {l : List Int} (h : ps.map qOf = pagesQ L l) (h0 : ∀ x ∈ l, 0 ≤ x ∧ x < (L.length : Int)) (hn : l.Nodup) : (lostG 0 ps).length = l.length ∧ ∀ x, x ∈ lostG 0 ps ↔ x ∈ l := by
  obtain ⟨hl, hat⟩ := pages_at h (fun x hx => (h0 x hx).1)
  have hm : ∀ x, x ∈ lostG 0 ps ↔ x ∈ l := fun x => by
    rw [lostG_mem]
    constructor
    · rintro ⟨j, hj, e, h2⟩
      have := hat j hj
      rw [Nat.zero_add] at e
      by_cases hc : l.contains (j : Int) = true
      · rw [e]; simpa using hc
      · rw [if_neg hc] at this
        exact absurd (congrArg Prod.fst this) h2
    · intro hx
      have hx0 := h0 x hx
      refine ⟨x.toNat, by omega, by omega, ?_⟩
      have := hat x.toNat (by omega)
      rw [if_pos (by rw [Int.toNat_of_nonneg hx0.1]; simpa using hx)] at this
      have h1 : ps[x.toNat].1 = 1 := congrArg Prod.fst this
      rw [h1]; decide
  refine ⟨?_, hm⟩
  have h1 : (lostG 0 ps).length ≤ l.length := nodup_le (lostG_nodup ps 0) (fun x hx => (hm x).1 hx)
  have h2 : l.length ≤ (lostG 0 ps).length := nodup_le hn (fun x hx => (hm x).2 hx)
  omega
theorem zs_zero {ps : List Pg} (h : ∀ j (hj : j < ps.length), ps[j].1 ≠ 0) : zs ps = 0 := by
  unfold zs
  rw [List.count_eq_zero]
  intro hm
  obtain ⟨p, hp, e⟩ := List.mem_map.1 hm
  obtain ⟨j, hj, rfl⟩ := List.getElem_of_mem hp
  exact h j hj e
theorem gs_eq (ps : List Pg) : (ps.length : Int) - gs ps = (lostG 0 ps).length := by
  have := lostG_len ps 0
  unfold gs
  omega
/-- decode of pages none of which is blank -/
theorem decP_of {s a most : Int} {ps : List Pg} (h6 : 6 ≤ ps.length) (h8 : ps.length ≤ 8) (h0 : 0 ≤ most) (h2 : most ≤ 2) (hz : zs ps = 0) : decP s a ps most = if most < (lostG 0 ps).length then (11, none) else decL s a ps := by
  unfold decP
  rw [if_neg (not_not_intro ⟨h6, h8, h0, h2⟩), gs_eq]
  by_cases h : most < ((lostG 0 ps).length : Int)
  · rw [if_pos (.inr h), if_pos h]
    unfold early
    rw [if_neg (by omega), if_neg (by omega)]
  · rw [if_neg (by rw [hz]; omega), if_neg h]
theorem decL_bad {s a : Int} {ps : List Pg} (h : rightR (fixR (pgB ps) (lostG 0 ps)) = false) : decL s a ps = (5, none) := if_neg (fun h2 => by rw [h] at h2; exact absurd h2.2 (by simp))
theorem decL_of {s a : Int} {ps : List Pg} {A : List (List Int)} (hf : fine48 ps) (hA : Cd.Code A 48 (ps.length - 2)) (hX : fixR (pgB ps) (lostG 0 ps) = A) : decL s a ps = (match slotL s a 0 0 (A.take (ps.length - 2)) [] with | some r => (0, some r) | none => (5, none)) := by
  unfold decL
  have hr : rightR (fixR (pgB ps) (lostG 0 ps)) = true := by
    rw [hX]
    unfold rightR
    have hl : A.length - 2 = ps.length - 2 := by have := hA.len; omega
    rw [hl, decide_eq_true hA.p, decide_eq_true hA.q]; rfl
  rw [if_pos ⟨hf, hr⟩, hX]
  rfl
/-- pages of a codeword, two lost at most: the codeword is made again -/
theorem fix_lost {ps : List Pg} {A : List (List Int)} {l : List Int} {d : Nat} (hA : Cd.Code A 48 d) (h2 : 2 ≤ d) (h14 : d ≤ 14) (h : ps.map qOf = pagesQ A l) (hok : Pc.Ok 2 (d + 2) l) : fine48 ps ∧ fixR (pgB ps) (lostG 0 ps) = A := by
  have lA := hA.len
  obtain ⟨o1, o2, o3⟩ := hok
  have hin : ∀ x ∈ l, 0 ≤ x ∧ x < (A.length : Int) := fun x hx => by have := o2 x hx; omega
  obtain ⟨hl, hat⟩ := pages_at h (fun x hx => (hin x hx).1)
  obtain ⟨e1, e2⟩ := lost_pages h hin o3
  have hcc : ∀ j : Nat, (lostG 0 ps).contains (j : Int) = l.contains (j : Int) := fun j => by
    rw [Bool.eq_iff_iff, List.contains_iff_mem, List.contains_iff_mem]; exact e2 _
  refine ⟨fun p hp h2 => ?_, ?_⟩
  · obtain ⟨j, hj, rfl⟩ := List.getElem_of_mem hp
    have := hat j hj
    by_cases hc : l.contains (j : Int) = true
    · rw [if_pos hc] at this
      have h1 : ps[j].1 = 1 := congrArg Prod.fst this
      omega
    · rw [if_neg hc] at this
      have h1 : ps[j].2.2.2 = row A j := congrArg Prod.snd this
      rw [h1]
      exact (Tw.good_row hA.good (i := j) (by omega)).1
  · refine (fix_code hA h2 h14 (by unfold pgB; rw [List.length_map]; omega) ⟨by omega, fun x hx => by have := hin x ((e2 x).1 hx); omega, lostG_nodup ps 0⟩ (fun j hj hc => ?_)).2
    rw [hcc] at hc
    have hj' : j < ps.length := by omega
    have := hat j hj'
    rw [if_neg (by rw [hc]; simp)] at this
    have h1 : ps[j].2.2.2 = row A j := congrArg Prod.snd this
    rw [row_lt (by unfold pgB; rw [List.length_map]; exact hj')]
    simp only [pgB, List.getElem_map]
    exact h1
/-- a codeword of which one row is wrong, one other lost at most: it is not right -/
theorem fix_wrong {ps : List Pg} {A : List (List Int)} {d k : Nat} (hA : Cd.Code A 48 d) (h2 : 4 ≤ d) (h14 : d ≤ 14) (hl : ps.length = d + 2) (hf : fine48 ps) (hb : ∀ p ∈ ps, OkB p.2.2.2) (hk : k < d + 2) (hP : (lostG 0 ps).length ≤ 1) (hkP : (lostG 0 ps).contains (k : Int) = false)
    (hat : ∀ j, j < d + 2 → j ≠ k → (lostG 0 ps).contains (j : Int) = false → row (pgB ps) j = row A j) (hne : row (pgB ps) k ≠ row A k) : rightR (fixR (pgB ps) (lostG 0 ps)) = false := by
  obtain ⟨f1, f2, f3⟩ := pages_fix (ps := ps) (by omega) (by omega) (by omega) hf hb
  have lb : (pgB ps).length = d + 2 := by unfold pgB; rw [List.length_map]; exact hl
  have lA := hA.len
  rw [hl] at f3
  have h0 : ∀ x ∈ lostG 0 ps, 0 ≤ x := fun x hx => by
    obtain ⟨j, _, e, _⟩ := (lostG_mem ps 0 x).1 hx
    omega
  have hXr : ∀ j, j < d + 2 → (lostG 0 ps).contains (j : Int) = false → row (fixR (pgB ps) (lostG 0 ps)) j = row (pgB ps) j := fun j hj hc => fixR_row _ _ (by omega) j (by omega) hc h0
  rw [Bool.eq_false_iff]
  intro hr
  unfold rightR at hr
  rw [f3, show d + 2 - 2 = d from by omega, Bool.and_eq_true] at hr
  have hC : Cd.Code (fixR (pgB ps) (lostG 0 ps)) 48 d := ⟨f2, f3, of_decide_eq_true hr.1, of_decide_eq_true hr.2⟩
  -- a place that may differ, beside k
  obtain ⟨i, hi, hik, hcov⟩ : ∃ i, i < d + 2 ∧ i ≠ k ∧ ∀ j : Nat, j ≠ i → (lostG 0 ps).contains (j : Int) = false := by
    match hL : lostG 0 ps, hP with
    | [], _ =>
      refine ⟨if k = 0 then 1 else 0, by split <;> omega, by split <;> omega, fun j _ => by simp⟩
    | [x], _ =>
      obtain ⟨j, hj, e, _⟩ := (lostG_mem ps 0 x).1 (by rw [hL]; simp)
      rw [Nat.zero_add] at e
      refine ⟨j, by omega, fun e2 => ?_, fun i hi => by simp; omega⟩
      rw [hL, e, e2] at hkP
      simp at hkP
  have hag : ∀ j, j < d + 2 → j ≠ k → j ≠ i → row A j = row (fixR (pgB ps) (lostG 0 ps)) j := fun j hj h1 h2 => by
    rw [hXr j hj (hcov j h2), hat j hj h1 (hcov j h2)]
  have heq : A = fixR (pgB ps) (lostG 0 ps) := by
    rcases Nat.lt_or_gt_of_ne hik with hlt | hgt
    · exact uniq hA hC (by omega) hlt hk (fun j hj h1 h2 => hag j hj h2 h1)
    · exact uniq hA hC (by omega) hgt hi (fun j hj h1 h2 => hag j hj h1 h2)
  have h3 := hXr k hk hkP
  rw [← heq] at h3
  exact hne h3.symm
/-- a row as it is encoded is a codeword -/
theorem code_full (s u a : Int) (es : List Ent) (n : Nat) (h : ∀ e ∈ es, e.Wf) : Cd.Code (fullE s u a es n) 48 n := by
  have := code_of (L := rowsE s u a es n) (n := 48) (fun r hr => ⟨rowsE_48 s u a es n r hr, rowsE_byt s u a es n h r hr⟩)
  rw [rowsE_len] at this
  exact this
theorem full_take (s u a : Int) (es : List Ent) (n : Nat) : (fullE s u a es n).take n = rowsE s u a es n := by
  unfold fullE
  rw [List.take_append_of_le_length (by rw [rowsE_len]; exact Nat.le_refl _), List.take_of_length_le (by rw [rowsE_len]; exact Nat.le_refl _)]
end Go.Proofs.Ytodbmgafejclmaa.Base
