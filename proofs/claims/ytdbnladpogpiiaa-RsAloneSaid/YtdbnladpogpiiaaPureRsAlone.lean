/-
  RsAlone, plainly.
-/
import Derived.Test.YtdbnladpogpiiaaPRwx1
import Derived.Test.YtdbnladpogpiiaaPc
namespace Go.Proofs.Ytdbnladpogpiiaa.Pure
open Go.RowKit Go.Proofs.Ytdbnladpogpiiaa.PRw Go.Proofs.YtdbnladpogpiiaaW.PrintWords Go.Proofs.YtdbnladpogpiiaaW.PrintLast Go.Proofs.Ytdbnladpogpiiaa.Fld Go.Proofs.Ytdbnladpogpiiaa.Pl Go.Proofs.Ytdbnladpogpiiaa.Ot Go.Proofs.Ytdbnladpogpiiaa.Kp Go.Proofs.Ytdbnladpogpiiaa.Fw Go.Proofs.Ytdbnladpogpiiaa.Co Go.Proofs.Ytdbnladpogpiiaa.Cw Go.Proofs.Ytdbnladpogpiiaa.Pc
set_option linter.unusedSimpArgs false
set_option linter.unusedVariables false
theorem ua_known : ramekinlaw5_known.f = some true := Lim.lim_ev (fun k => PRq.ramekinlaw5_known.mono k) known_ev
theorem ua_within (a n : Int) (hn : 1 ≤ n) (hn2 : n ≤ 4611686018427387904) : ramekinlaw5_within.f a n = some (a % n) := within_f a n hn hn2
theorem ua_rows (l0 : List Int) (m s : Nat) (hm : m ≤ 1000) (hs : s ≤ 1000) (hl : l0.length ≤ 9223372036854775807) : ∃ L, ramekinlaw5_Rows.f l0 (m : Int) (s : Int) = some L ∧ L.length = m ∧ (∀ r ∈ L, r.length = s) ∧ (∀ r ∈ L, Bytes r) := by
  obtain ⟨L, h, h2⟩ := rows_ev l0 m s hm hs hl
  exact ⟨L, Lim.lim_ev (fun k => PRq.ramekinlaw5_Rows.mono _ _ _ k) h, h2⟩
theorem ua_places (l3 : List Int) (m lim : Nat) (hm : 1 ≤ m) (hm2 : m ≤ 1000000) (hlim : lim ≤ 1000) (hl : l3.length ≤ 9223372036854775807) : ∃ P, ramekinlaw4_Places.f l3 (m : Int) (lim : Int) = some P ∧ Ok lim m P := by
  obtain ⟨P, h, h2⟩ := places_ev l3 m lim hm hm2 hlim hl
  exact ⟨P, Lim.lim_ev (fun k => PRq.ramekinlaw4_Places.mono _ _ _ k) h, h2⟩
theorem ua_check (L : List (List Int)) (n d : Nat) (hL : Tw.GoodR n L) (hd : L.length = d + 2) (h4 : 4 ≤ L.length) (h16 : L.length ≤ 16) (hn : n ≤ 1000000) : rs_Check.f L = some (decide (sumP (L.take d) n = row L d) && decide (sumQ (L.take d) n = row L (d + 1))) :=
  Lim.lim_ev (fun k => PRr.rs_Check.mono _ k) (check_ev L n d hL hd h4 h16 hn)
theorem ua_same (L : List (List Int)) (hb : ∀ r ∈ L, Bytes r) (hm : L.length ≤ 1000000) : ramekinlaw5_same.f L L = some true := by
  unfold ramekinlaw5_same.f
  rw [if_pos ⟨fun r hr x hx => hb r hr x hx, fun r hr x hx => hb r hr x hx, hm, hm⟩, decide_eq_true rfl]
theorem ua_mod (a : Int) (n : Nat) (hn : 1 ≤ n) : ∃ m : Nat, a % (n : Int) = (m : Int) ∧ m < n := by
  have h2 := Int.emod_nonneg a (b := (n : Int)) (by omega)
  have h3 := Int.emod_lt_of_pos a (b := (n : Int)) (by omega)
  exact ⟨(a % (n : Int)).toNat, by omega, by omega⟩

/-- rows made again are bytes, of one length -/
theorem good_fix {L : List (List Int)} {lost : List Int} {s : Nat} (hL : Tw.GoodR s L) (hm : mayB L lost = true) (hk : lenR (kept L lost) = s) : Tw.GoodR s (fixR L lost) := by
  obtain ⟨m1, m2, m3, m4, m5, m6⟩ := may_facts hm
  have hkl := kept_len m6
  rw [hk] at hkl
  have hg : Tw.GoodR s (ownR L lost s) := own_good (fun r hr => (hL r hr).2) hkl
  have hol := own_len L lost s
  have b1 : Byt 1 := ⟨by omega, by omega⟩
  obtain ⟨d, hd⟩ : ∃ d, L.length = d + 2 := ⟨L.length - 2, by omega⟩
  have e : L.length - 2 = d := by omega
  unfold fixR
  simp only
  rw [hk, e]
  generalize ownR L lost s = R at hg hol
  have gT := good_take (m := d) hg
  have bT : ∀ x ∈ R.take d, Bytes x := fun x hx => (gT x hx).2
  have hp := Tw.good_add (n := s) (a := sumP (R.take d) s) ⟨sumP_len _ _, bytes_sumP _ _ bT⟩ (Tw.good_row hg (i := d) (by omega)).2 b1
  have hq := Tw.good_add (n := s) (a := sumQ (R.take d) s) ⟨sumQ_len _ _, bytes_sumQ _ _ bT⟩ (Tw.good_row hg (i := d + 1) (by omega)).2 b1
  generalize addR (sumP (R.take d) s) (row R d) 1 = p at hp
  generalize addR (sumQ (R.take d) s) (row R (d + 1)) 1 = q at hq
  have par : ∀ (gone : List Nat) (X : List (List Int)), Tw.GoodR s X → Tw.GoodR s (parR X gone d s) := by
    intro gone
    induction gone with
    | nil => intro X hX; exact hX
    | cons i t ih =>
      intro X hX
      show Tw.GoodR s (parR (if i ≥ d then X.set i _ else X) t d s)
      apply ih
      have gX := good_take (m := d) hX
      split
      · refine Tw.good_set hX ?_
        split
        · exact ⟨sumP_len _ _, bytes_sumP _ _ (fun x hx => (gX x hx).2)⟩
        · exact ⟨sumQ_len _ _, bytes_sumQ _ _ (fun x hx => (gX x hx).2)⟩
      · exact hX
  apply par
  rcases gone_of m3 m4 m5 with h | ⟨a, h, ha⟩ | ⟨a, b, h, hab, hb⟩
  · rw [h]; exact hg
  · rw [h]
    have hra := Tw.good_row hg (i := a) (by omega)
    simp only [List.map_cons, List.map_nil, Int.toNat_natCast, dataR]
    split
    · exact hg
    · exact Tw.good_set hg (Tw.good_add hra hp.2 b1)
  · rw [h]
    have hra := Tw.good_row hg (i := a) (by omega)
    simp only [List.map_cons, List.map_nil, Int.toNat_natCast, dataR]
    split
    · exact hg
    · split
      · exact good_two hg (by omega) (by omega) hp hq
      · split
        · exact Tw.good_set hg (Tw.good_add hra hq.2 (byt_inv (byt_exp a)))
        · exact Tw.good_set hg (Tw.good_add hra hp.2 b1)
/-- with two rows lost the rows made again are right -/
theorem fix_right {L : List (List Int)} {lost : List Int} {s d : Nat} (hL : Tw.GoodR s L) (hm : mayB L lost = true) (hk : lenR (kept L lost) = s) (hd : L.length = d + 2) (h2 : lost.length = 2) :
    sumP ((fixR L lost).take d) s = row (fixR L lost) d ∧ sumQ ((fixR L lost).take d) s = row (fixR L lost) (d + 1) := by
  obtain ⟨m1, m2, m3, m4, m5, m6⟩ := may_facts hm
  have hkl := kept_len m6
  rw [hk] at hkl
  have hg : Tw.GoodR s (ownR L lost s) := own_good (fun r hr => (hL r hr).2) hkl
  have hol := own_len L lost s
  have e : L.length - 2 = d := by omega
  have hsl : (srt lost).length = lost.length := by
    unfold srt
    split
    · split <;> rfl
    · rfl
  have hmem : ∀ i : Nat, i < L.length → (i : Int) ∈ srt lost → row (ownR L lost s) i = List.replicate s 0 := fun i hi hin => by
    rw [srt_mem m3] at hin
    rw [ownR_row _ _ _ _ hi, if_pos (by simpa using hin)]
  rcases gone_of m3 m4 m5 with h | ⟨a, h, ha⟩ | ⟨a, b, h, hab, hb⟩
  · rw [h] at hsl; simp at hsl; omega
  · rw [h] at hsl; simp at hsl; omega
  · refine code_two (R := ownR L lost s) hg (by omega) hab (by omega) (by omega) (hmem a (by omega) (by rw [h]; simp)) (hmem b (by omega) (by rw [h]; simp)) ?_
    unfold fixR
    simp only
    rw [hk, e, h]
    rfl
theorem spare (P : List Int) (h : P.length ≤ 2) : ∃ i : Nat, i < 3 ∧ P.contains (i : Int) = false := by
  match P, h with
  | [], _ => exact ⟨0, by omega, rfl⟩
  | [a], _ =>
    by_cases h0 : a = 0
    · exact ⟨1, by omega, by simp; omega⟩
    · exact ⟨0, by omega, by simp; omega⟩
  | [a, b], _ =>
    by_cases h0 : a = 0 ∨ b = 0
    · by_cases h1 : a = 1 ∨ b = 1
      · exact ⟨2, by omega, by simp; omega⟩
      · exact ⟨1, by omega, by simp; omega⟩
    · exact ⟨0, by omega, by simp; omega⟩
theorem alone_l1 (L X : List (List Int)) (at' : List Int) (i : Nat) (hat : at'.length ≤ 1000000) (R : Bool)
    (h : Ev (fun k => if at'.contains (i : Int) = true then ramekinlaw5_RsAlone.l0 k L at' X (wrap64 ((i : Int) + 1)) else ramekinlaw5_RsAlone.l1 (k + 1) L at' X (i : Int) false (at'.length : Int)) R) :
    ∀ d j (b : Bool), at'.length - j = d → j ≤ at'.length → b = (at'.take j).contains (i : Int) → Ev (fun k => ramekinlaw5_RsAlone.l1 k L at' X (i : Int) b (j : Int)) R
  | 0, j, b, hd, hj, hb => by
    obtain rfl : j = at'.length := by omega
    rw [List.take_length] at hb
    by_cases hc : at'.contains (i : Int) = true
    · refine Ev.step (fun k => ?_) h
      rw [ramekinlaw5_RsAlone.l1, if_neg (by omega), hb, hc, if_pos rfl, if_pos rfl]
    · have hf := Bool.eq_false_iff.2 hc
      have h2 : Ev (fun k => ramekinlaw5_RsAlone.l1 (k + 1) L at' X (i : Int) false (at'.length : Int)) R := Ev.congr (fun k => by rw [if_neg hc]) h
      rw [hb, hf]
      obtain ⟨K, hK⟩ := h2
      exact ⟨K + 1, fun k hk => by
        obtain ⟨q, rfl⟩ : ∃ q, k = q + 1 := ⟨k - 1, by omega⟩
        exact hK q (by omega)⟩
  | d + 1, j, b, hd, hj, hb => by
    have hjl : j < at'.length := by omega
    have hrd : rd at' (j : Int) = at'[j] := by rw [rd_nat, at_lt hjl]
    have htk : (at'.take (j + 1)).contains (i : Int) = ((at'.take j).contains (i : Int) || ((i : Int) == at'[j])) := by
      rw [List.take_succ_eq_append_getElem hjl, List.contains_append]
      rw [List.contains_cons, List.contains_nil, Bool.or_false]
    refine Ev.step (fun k => ?_) (alone_l1 L X at' i hat R h d (j + 1) ((at'.take (j + 1)).contains (i : Int)) (by omega) (by omega) rfl)
    rw [ramekinlaw5_RsAlone.l1, if_pos (by omega), w64 (n := (j : Int) + 1) (by omega) (by omega)]
    by_cases hc : b = true
    · rw [if_pos hc, htk, ← hb, hc]
      rfl
    · rw [if_neg hc, if_pos (by omega), hrd, htk, ← hb, Bool.eq_false_iff.2 hc, Bool.false_or, Bool.beq_comm]
      rfl
theorem alone_loop (L X : List (List Int)) (P : List Int) (hL : L.length ≤ 1000000) (hXl : X.length = L.length) (hP : P.length ≤ 1000000) (hXr : ∀ i, i < L.length → P.contains (i : Int) = false → row X i = row L i) (f2 : rs_Fix.f X P = some (X, true)) (f3 : ramekinlaw5_same.f X X = some true) (f4 : ¬ (P.length : Int) < 2 → rs_Check.f X = some true) : Ev (fun k => ramekinlaw5_RsAlone.l0 k L P X 0) true := by
  have loop : ∀ d i : Nat, L.length - i = d → i ≤ L.length → Ev (fun k => ramekinlaw5_RsAlone.l0 k L P X (i : Int)) true := by
    intro d
    induction d with
    | zero =>
      intro i hd hi
      obtain rfl : i = L.length := by omega
      refine Ev.step (f := fun _ => some true) (fun k => ?_) (Ev.now _)
      rw [ramekinlaw5_RsAlone.l0, if_neg (by omega), f2]
      simp only [Option.bind_some, ↓reduceIte]
      rw [f3]
      simp only [Option.bind_some, ↓reduceIte]
      by_cases h : (P.length : Int) < 2
      · rw [if_pos h]
      · rw [if_neg h, f4 h]
        rfl
    | succ d ih =>
      intro i hd hi
      have hil : i < L.length := by omega
      have e1 : wrap64 ((i : Int) + 1) = ((i + 1 : Nat) : Int) := by rw [w64 (by omega) (by omega)]; rfl
      have hnext := ih (i + 1) (by omega) (by omega)
      refine Ev.step (f := fun k => ramekinlaw5_RsAlone.l1 k L P X (i : Int) false ((0 : Nat) : Int)) (fun k => ?_) (alone_l1 L X P i hP true ?_ P.length 0 false (Nat.sub_zero _) (Nat.zero_le _) (by simp))
      · rw [ramekinlaw5_RsAlone.l0, if_pos (by omega)]
        rfl
      · by_cases hc : P.contains (i : Int) = true
        · refine Ev.congr (fun k => ?_) hnext
          rw [if_pos hc, e1]
        · refine Ev.congr (fun k => ?_) hnext
          have hrX : rd_L2 X (i : Int) = row X i := by unfold rd_L2 row; simp
          have hrL : rd_L2 L (i : Int) = row L i := by unfold rd_L2 row; simp
          rw [if_neg hc, ramekinlaw5_RsAlone.l1, if_neg (by omega), if_neg (by simp), if_pos (by omega), if_pos (by omega), if_pos (by omega), hrX, hrL, hXr i hil (Bool.eq_false_iff.2 hc), if_pos rfl, e1]
  exact loop L.length 0 (Nat.sub_zero _) (Nat.zero_le _)
theorem RsAlone : ramekinlaw5_RsAlone.Pure := by
  intro l0 a1 a2 l3 h1 h2 h3 h4 h5 h6 h7 h8
  unfold maxLen at h1 h6
  obtain ⟨m0, em, hm0⟩ := ua_mod a1 13 (by omega)
  obtain ⟨s, es, hs⟩ := ua_mod a2 10 (by omega)
  obtain ⟨L, hL, hlen, hrow, hB⟩ := ua_rows l0 (4 + m0) s (by omega) (by omega) (by omega)
  obtain ⟨P, hP, hok1, hok2, hok3⟩ := ua_places l3 L.length 2 (by omega) (by omega) (by omega) (by omega)
  have hG : Tw.GoodR s L := fun r hr => ⟨hrow r hr, hB r hr⟩
  have hkr : ∀ r ∈ kept L P, r.length = s := by
    rw [kept_idx]
    intro r hr
    obtain ⟨j, hj, rfl⟩ := List.mem_map.1 hr
    have := idx_lt hj
    rw [row_lt this]
    exact hrow _ (List.getElem_mem _)
  have hmay : mayB L P = true := by
    rw [mayB_of (by omega) (by omega) hok1 (fun j h => hok2 _ (List.getElem_mem h)) hok3]
    exact alikeR_of hkr
  obtain ⟨i0, hi0, hc0⟩ := spare P hok1
  have hne : kept L P ≠ [] := by
    intro h
    have : row L i0 ∈ kept L P := by
      rw [kept_idx]
      refine List.mem_map.2 ⟨i0, ?_, rfl⟩
      unfold idx
      rw [List.mem_filter]
      exact ⟨by simp; omega, by rw [hc0]; rfl⟩
    rw [h] at this
    cases this
  have hls : lenR (kept L P) = s := lenR_of hkr hne
  have hGX := good_fix hG hmay hls
  have hXl := fixR_len L P
  have h0P : ∀ x ∈ P, 0 ≤ x := fun x hx => (hok2 x hx).1
  obtain ⟨_, _, ag3, ag4⟩ := again L P hok1 h0P
  have hXr : ∀ i, i < L.length → P.contains (i : Int) = false → row (fixR L P) i = row L i := fun i hi hc => fixR_row L P hok1 i hi hc h0P
  have f1 : rs_Fix.f L P = some (fixR L P, true) := by
    have := fixF_of (lost := P) hB (fun r hr => by rw [hrow r hr]; omega) (by omega) (by omega)
    rw [if_pos hmay] at this
    exact this
  have f2 : rs_Fix.f (fixR L P) P = some (fixR L P, true) := by
    have := fixF_of (L := fixR L P) (lost := P) (fun r hr => (hGX r hr).2) (fun r hr => by rw [(hGX r hr).1]; omega) (by omega) (by omega)
    rw [ag4, if_pos hmay, ag3] at this
    exact this
  have f3 : ramekinlaw5_same.f (fixR L P) (fixR L P) = some true := ua_same _ (fun r hr => (hGX r hr).2) (by omega)
  have f4 : ¬ (P.length : Int) < 2 → rs_Check.f (fixR L P) = some true := fun h => by
    obtain ⟨d, hd⟩ : ∃ d, L.length = d + 2 := ⟨L.length - 2, by omega⟩
    have hr := fix_right hG hmay hls hd (by omega)
    rw [ua_check (fixR L P) s d hGX (by omega) (by omega) (by omega) (by omega), decide_eq_true hr.1, decide_eq_true hr.2]
    rfl
  generalize fixR L P = X at hGX hXl hXr f1 f2 f3 f4
  have loop := alone_loop L X P (by omega) hXl (by omega) hXr f2 f3 f4
  have e2 : wrap64 (4 + (m0 : Int)) = ((4 + m0 : Nat) : Int) := by rw [w64 (by omega) (by omega)]; omega
  have key : ∀ k, ramekinlaw5_RsAlone.f k l0 a1 a2 l3 = ramekinlaw5_RsAlone.j0 k L P X false := by
    intro k
    unfold ramekinlaw5_RsAlone.f
    rw [ua_known]
    simp only [Option.bind_some, ↓reduceIte]
    rw [ua_within a1 13 (by omega) (by omega), ua_within a2 10 (by omega) (by omega)]
    simp only [Option.bind_some]
    rw [show a1 % 13 = (m0 : Int) from em, show a2 % 10 = (s : Int) from es, e2, hL]
    simp only [Option.bind_some]
    rw [show (2 : Int) = ((2 : Nat) : Int) from rfl, hP]
    simp only [Option.bind_some]
    rw [f1]
    simp only [Option.bind_some, ↓reduceIte]
    rw [hXl]
    simp
  refine Ev.rounds (Ev.congr key (Ev.step (fun k => ?_) loop))
  rw [ramekinlaw5_RsAlone.j0, if_neg (by simp)]
end Go.Proofs.Ytdbnladpogpiiaa.Pure
