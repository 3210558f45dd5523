/-
  RsDetects, plainly.
-/
import Derived.Test.YtdbnladpogpiiaaPRvx1
import Derived.Test.YtdbnladpogpiiaaRp
namespace Go.Proofs.Ytdbnladpogpiiaa.Pure
open Go.RowKit Go.Proofs.Ytdbnladpogpiiaa.PRv Go.Proofs.YtdbnladpogpiiaaW.PrintWords Go.Proofs.YtdbnladpogpiiaaW.PrintLast Go.Proofs.Ytdbnladpogpiiaa.Fld Go.Proofs.Ytdbnladpogpiiaa.Pl Go.Proofs.Ytdbnladpogpiiaa.Ot Go.Proofs.Ytdbnladpogpiiaa.Kp Go.Proofs.Ytdbnladpogpiiaa.Fw Go.Proofs.Ytdbnladpogpiiaa.Co Go.Proofs.Ytdbnladpogpiiaa.Cw Go.Proofs.Ytdbnladpogpiiaa.Cd
set_option linter.unusedSimpArgs false
set_option linter.unusedVariables false
theorem ud_known : ramekinlaw5_known.f = some true := Lim.lim_ev (fun k => PRq.ramekinlaw5_known.mono k) known_ev
theorem ud_within (a n : Int) (hn : 1 ≤ n) (hn2 : n ≤ 4611686018427387904) : ramekinlaw5_within.f a n = some (a % n) := within_f a n hn hn2
theorem ud_rows (l0 : List Int) (m s : Nat) (hm : m ≤ 1000) (hs : s ≤ 1000) (hl : l0.length ≤ 9223372036854775807) : ∃ L, ramekinlaw5_Rows.f l0 (m : Int) (s : Int) = some L ∧ L.length = m ∧ (∀ r ∈ L, r.length = s) ∧ (∀ r ∈ L, Bytes r) := by
  obtain ⟨L, h, h2⟩ := rows_ev l0 m s hm hs hl
  exact ⟨L, Lim.lim_ev (fun k => PRq.ramekinlaw5_Rows.mono _ _ _ k) h, h2⟩
theorem ud_check (L : List (List Int)) (n d : Nat) (hL : Tw.GoodR n L) (hd : L.length = d + 2) (h4 : 4 ≤ L.length) (h16 : L.length ≤ 16) (hn : n ≤ 1000000) : rs_Check.f L = some (decide (sumP (L.take d) n = row L d) && decide (sumQ (L.take d) n = row L (d + 1))) :=
  Lim.lim_ev (fun k => PRr.rs_Check.mono _ k) (check_ev L n d hL hd h4 h16 hn)
theorem ud_refpar (L : List (List Int)) (n : Nat) (hn : ∀ r ∈ L, r.length = n) (hL : ∀ r ∈ L, Bytes r) (h2 : 2 ≤ L.length) (h14 : L.length ≤ 14) (hn2 : n ≤ 281474976710656) : ramekinref5_Parity.f L = some (sumP L n, sumQ L n) :=
  Lim.lim_ev (fun k => PRr.ramekinref5_Parity.mono _ k) (Rp.refpar_ev L n hn hL h2 h14 hn2)
theorem ud_mod (a : Int) (n : Nat) (hn : 1 ≤ n) : ∃ m : Nat, a % (n : Int) = (m : Int) ∧ m < n := by
  have h2 := Int.emod_nonneg a (b := (n : Int)) (by omega)
  have h3 := Int.emod_lt_of_pos a (b := (n : Int)) (by omega)
  exact ⟨(a % (n : Int)).toNat, by omega, by omega⟩

theorem code_of {L : List (List Int)} {n : Nat} (hL : Tw.GoodR n L) : Cd.Code (L ++ [sumP L n, sumQ L n]) n L.length := by
  have hb : ∀ x ∈ L, Bytes x := fun x hx => (hL x hx).2
  refine ⟨fun r hr => ?_, by simp, ?_, ?_⟩
  · rcases List.mem_append.1 hr with hr | hr
    · exact hL r hr
    · simp only [List.mem_cons, List.not_mem_nil, or_false] at hr
      rcases hr with rfl | rfl
      · exact ⟨sumP_len _ _, bytes_sumP _ _ hb⟩
      · exact ⟨sumQ_len _ _, bytes_sumQ _ _ hb⟩
  · rw [List.take_left]
    unfold row
    simp
  · rw [List.take_left]
    unfold row
    simp
theorem row_self {A : List (List Int)} {i : Nat} (hi : i < A.length) : A.set i (row A i) = A := by
  refine row_ext (by simp) (fun j hj => ?_)
  by_cases e : i = j
  · subst e; exact Tw.row_set_self hi _
  · exact Tw.row_set_ne e _
/-- one row made again -/
theorem fix_one {A : List (List Int)} {n d i : Nat} (hA : Cd.Code A n d) (hi : i < d + 2) (hk : lenR (kept A [(i : Int)]) = n) : fixR A [(i : Int)] = A := by
  have lA := hA.len
  have hR : ownR A [(i : Int)] n = A.set i (List.replicate n 0) := by
    refine row_ext (by rw [own_len, List.length_set]) (fun j hj => ?_)
    rw [own_len] at hj
    rw [ownR_row _ _ _ _ hj]
    by_cases e : i = j
    · subst e
      rw [Tw.row_set_self hj]
      simp
    · rw [Tw.row_set_ne e, if_neg (by simp; omega)]
  have e : A.length - 2 = d := by omega
  have ai := Tw.good_row hA.good (i := i) (by omega)
  unfold fixR
  simp only
  rw [hk, e, hR]
  simp only [srt, List.map_cons, List.map_nil, Int.toNat_natCast, dataR]
  by_cases hid : d ≤ i
  · rw [if_pos hid]
    have ht : (A.set i (List.replicate n 0)).take d = A.take d := take_set_ge hid _
    simp only [parR, List.foldl_cons, List.foldl_nil]
    rw [if_pos hid, ht, List.set_set]
    by_cases h2 : i = d
    · subst h2
      rw [if_pos rfl, hA.p]
      exact row_self (by omega)
    · obtain rfl : i = d + 1 := by omega
      rw [if_neg h2, hA.q]
      exact row_self (by omega)
  · rw [if_neg hid]
    simp only [parR, List.foldl_cons, List.foldl_nil]
    rw [if_neg hid, List.set_set, Tw.row_set_self (by omega), Tw.row_set_ne (by omega), take_set_lt]
    have gT := good_take (m := d) hA.good
    have bT : ∀ x ∈ A.take d, Bytes x := fun x hx => (gT x hx).2
    have lT : (A.take d).length = d := by rw [List.length_take]; omega
    have gd := Tw.good_row hA.good (i := d) (by omega)
    have key : addR (List.replicate n 0) (addR (sumP ((A.take d).set i (List.replicate n 0)) n) (row A d) 1) 1 = row A i := by
      refine ext_at (by rw [addR_len, List.length_replicate, ai.1]) (fun k hk => ?_)
      rw [addR_len, List.length_replicate] at hk
      have e1 : pS (A.take d) k = at_ (row A d) k := by rw [← hA.p, sumP_at _ hk]
      have b1 := byt_at gd.2 k
      have b2 := byt_at ai.2 k
      rw [addR_at _ _ _ _ (by rw [List.length_replicate]; exact hk) (by rw [addR_len, sumP_len]; exact hk), addR_at _ _ _ _ (by rw [sumP_len]; exact hk) (by rw [gd.1]; exact hk), sumP_at _ hk, pS_set _ i _ k (by rw [lT]; omega), row_take (by omega), at_zero, e1,
        mulI_one b1, xorI_zero b2, mulI_one (byt_xor (byt_xor b1 b2) b1), zero_xorI (byt_xor (byt_xor b1 b2) b1), xorI_comm, xorI_self_left _ b2]
    rw [key]
    exact row_self (by omega)
def hit (b : List Int) (j : Nat) : Bool := (List.range j).any fun t => at_ b t != 0
theorem hit_succ (b : List Int) (j : Nat) : hit b (j + 1) = (hit b j || (at_ b j != 0)) := by
  unfold hit
  rw [List.range_succ, List.any_append]
  simp
theorem det_loop (l4 : List Int) (A X : List (List Int)) (i kk N : Nat) (c : Bool) (hA : A.length ≤ 1000000) (hN : N ≤ l4.length) (hN8 : N ≤ 8) (hN2 : N = l4.length ∨ N = 8) (hkk : kk < A.length) (hr : (row A kk).length = 8) (ha : Bytes (row A kk)) (hb : Bytes l4)
    (F : rs_Fix.f (A.set kk (Pl.part (row A kk) l4 none N)) [(i : Int)] = some (X, true)) (C : rs_Check.f X = some c) (hc : (c == !(hit l4 N)) = true) :
    ∀ dd j : Nat, N - j = dd → j ≤ N → Ev (fun q => ramekinlaw5_RsDetects.l0 q l4 A (i : Int) (kk : Int) (Pl.part (row A kk) l4 none j) (hit l4 j) (j : Int)) true
  | 0, j, hd, hj => by
    obtain rfl : j = N := by omega
    refine Ev.step (f := fun _ => some true) (fun q => ?_) (Ev.now _)
    have fin : (if 0 ≤ (kk : Int) then (if (kk : Int) < (A.length : Int) then ((rs_Fix.f (A.set (kk : Int).toNat (Pl.part (row A kk) l4 none j)) ([(i : Int)] : List Int)).bind fun bt165 => (if bt165.2 = true then ((rs_Check.f bt165.1).bind fun t169 => (some (t169 == (!(hit l4 j))))) else (some false))) else (none)) else (none)) = some true := by
      rw [if_pos (by omega), if_pos (by omega), Int.toNat_natCast, F]
      simp only [Option.bind_some, ↓reduceIte]
      rw [C]
      simp only [Option.bind_some]
      rw [hc]
    rw [ramekinlaw5_RsDetects.l0]
    rcases hN2 with h | h
    · rw [if_neg (by omega)]
      exact fin
    · by_cases h2 : (j : Int) < (l4.length : Int)
      · rw [if_pos h2, if_neg (by omega)]
        exact fin
      · rw [if_neg h2]
        exact fin
  | dd + 1, j, hd, hj => by
    have e3 := part_set (row A kk) l4 none j (by omega)
    have t3 : term l4 none j = at_ l4 j := rfl
    rw [t3] at e3
    have e5 : at_ (Pl.part (row A kk) l4 none j) j = at_ (row A kk) j := by rw [part_at _ _ _ _ _ (by omega), if_neg (by omega)]
    refine Ev.step (fun q => ?_) (det_loop l4 A X i kk N c hA hN hN8 hN2 hkk hr ha hb F C hc dd (j + 1) (by omega) (by omega))
    rw [ramekinlaw5_RsDetects.l0, if_pos (by omega), if_pos (by omega), if_pos (by omega), if_pos (by rw [part_len]; omega), w64 (n := (j : Int) + 1) (by omega) (by omega)]
    simp only [Option.bind_some, rd_nat, Int.toNat_natCast]
    rw [e5, xor_u8 (byt_at ha j) (byt_at hb j), e3, hit_succ]
    by_cases h : hit l4 j = true
    · rw [if_pos h, h]
      rfl
    · rw [if_neg h, Bool.eq_false_iff.2 h, Bool.false_or]
      rfl
/-- the law, of any rows with their parities -/
theorem detects (A : List (List Int)) (d i kk N : Nat) (l4 : List Int) (hA : Cd.Code A 8 d) (h4 : 2 ≤ d) (h16 : d + 2 ≤ 16) (hi : i < d + 2) (hkk : kk < d + 2) (hne : kk ≠ i) (hN8 : N ≤ 8) (hb : Bytes l4) :
    ∃ X c, rs_Fix.f (A.set kk (Pl.part (row A kk) l4 none N)) [(i : Int)] = some (X, true) ∧ rs_Check.f X = some c ∧ (c == !(hit l4 N)) = true := by
  have lA := hA.len
  have ak := Tw.good_row hA.good (i := kk) (by omega)
  have pl : (Pl.part (row A kk) l4 none N).length = 8 := by rw [part_len]; exact ak.1
  have pb : Bytes (Pl.part (row A kk) l4 none N) := by
    intro x hx
    obtain ⟨j, hj, rfl⟩ := List.getElem_of_mem hx
    rw [← at_lt hj]
    rw [part_len] at hj
    rw [part_at _ _ _ _ _ hj]
    split
    · exact byt_xor (byt_at ak.2 j) (byt_term hb j)
    · exact byt_at ak.2 j
  have hit_part : hit l4 N = false → Pl.part (row A kk) l4 none N = row A kk := fun h => by
    refine ext_at (by rw [part_len]) (fun j hj => ?_)
    rw [part_len] at hj
    rw [part_at _ _ _ _ _ hj]
    split
    · rename_i hjN
      unfold hit at h
      rw [List.any_eq_false] at h
      have := h j (by simpa using hjN)
      have h0 : at_ l4 j = 0 := by simpa using this
      have ht : term l4 none j = at_ l4 j := rfl
      rw [ht, h0, xorI_zero (byt_at ak.2 j)]
    · rfl
  have part_hit : Pl.part (row A kk) l4 none N = row A kk → hit l4 N = false := fun h => by
    unfold hit
    rw [List.any_eq_false]
    intro j hj
    have hjN : j < N := by simpa using hj
    have h1 : at_ (Pl.part (row A kk) l4 none N) j = at_ (row A kk) j := by rw [h]
    rw [part_at _ _ _ _ _ (by omega), if_pos hjN] at h1
    have ht : term l4 none j = at_ l4 j := rfl
    rw [ht] at h1
    have h2 := congrArg (xorI (at_ (row A kk) j)) h1
    rw [xorI_self_left _ (byt_at hb j), xorI_self] at h2
    simp [h2]
  generalize Pl.part (row A kk) l4 none N = bad at pl pb hit_part part_hit
  have hGB : Tw.GoodR 8 (A.set kk bad) := Tw.good_set hA.good ⟨pl, pb⟩
  have lB : (A.set kk bad).length = d + 2 := by rw [List.length_set]; exact lA
  have hkr : ∀ r ∈ kept (A.set kk bad) [(i : Int)], r.length = 8 := by
    rw [kept_idx]
    intro r hr
    obtain ⟨j, hj, rfl⟩ := List.mem_map.1 hr
    exact (Tw.good_row hGB (idx_lt hj)).1
  have hmay : mayB (A.set kk bad) [(i : Int)] = true := by
    rw [mayB_of (by omega) (by omega) (by simp) (fun j h => by
      obtain rfl : j = 0 := by simp at h; omega
      simp only [List.getElem_cons_zero]
      omega) (by simp)]
    exact alikeR_of hkr
  have hne0 : ∀ B : List (List Int), B.length = d + 2 → kept B [(i : Int)] ≠ [] := fun B hB h => by
    have : row B kk ∈ kept B [(i : Int)] := by
      rw [kept_idx]
      refine List.mem_map.2 ⟨kk, ?_, rfl⟩
      unfold idx
      rw [List.mem_filter]
      refine ⟨by simp; omega, ?_⟩
      simp
      omega
    rw [h] at this
    cases this
  have hls : lenR (kept (A.set kk bad) [(i : Int)]) = 8 := lenR_of hkr (hne0 _ lB)
  have f1 : rs_Fix.f (A.set kk bad) [(i : Int)] = some (fixR (A.set kk bad) [(i : Int)], true) := by
    have := fixF_of (L := A.set kk bad) (lost := [(i : Int)]) (fun r hr => (hGB r hr).2) (fun r hr => by rw [(hGB r hr).1]; omega) (by simp) (by omega)
    rw [if_pos hmay] at this
    exact this
  have hXl := fixR_len (A.set kk bad) [(i : Int)]
  have hGX := Rp.good_fix1 hGB hmay hls
  have hXr : ∀ j, j < d + 2 → j ≠ i → row (fixR (A.set kk bad) [(i : Int)]) j = row (A.set kk bad) j := fun j hj hji => fixR_row _ _ (by simp) j (by omega) (by simp; omega) (by simp)
  refine ⟨_, _, f1, ud_check _ 8 d hGX (by omega) (by omega) (by omega) (by omega), ?_⟩
  by_cases hh : hit l4 N = true
  · rw [hh]
    have hno : ¬ (sumP ((fixR (A.set kk bad) [(i : Int)]).take d) 8 = row (fixR (A.set kk bad) [(i : Int)]) d ∧ sumQ ((fixR (A.set kk bad) [(i : Int)]).take d) 8 = row (fixR (A.set kk bad) [(i : Int)]) (d + 1)) := by
      rintro ⟨h1, h2⟩
      have hC : Cd.Code (fixR (A.set kk bad) [(i : Int)]) 8 d := ⟨hGX, by omega, h1, h2⟩
      have heq : A = fixR (A.set kk bad) [(i : Int)] := by
        rcases Nat.lt_or_gt_of_ne hne with hlt | hgt
        · exact uniq hA hC h16 hlt hi (fun j hj h1 h2 => by rw [hXr j hj h2, Tw.row_set_ne (Ne.symm h1)])
        · exact uniq hA hC h16 hgt hkk (fun j hj h1 h2 => by rw [hXr j hj h1, Tw.row_set_ne (Ne.symm h2)])
      have h3 := hXr kk hkk hne
      rw [← heq, Tw.row_set_self (by omega)] at h3
      have := part_hit h3.symm
      rw [hh] at this
      cases this
    have : (decide (sumP ((fixR (A.set kk bad) [(i : Int)]).take d) 8 = row (fixR (A.set kk bad) [(i : Int)]) d) && decide (sumQ ((fixR (A.set kk bad) [(i : Int)]).take d) 8 = row (fixR (A.set kk bad) [(i : Int)]) (d + 1))) = false := by
      rw [Bool.eq_false_iff]
      intro h
      rw [Bool.and_eq_true, decide_eq_true_eq, decide_eq_true_eq] at h
      exact hno h
    rw [this]
    rfl
  · have hf := Bool.eq_false_iff.2 hh
    have hbad := hit_part hf
    rw [hbad, row_self (by omega)] at hls ⊢
    rw [fix_one hA hi hls, decide_eq_true hA.p, decide_eq_true hA.q, hf]
    rfl
theorem next_ne (i v n : Nat) (hi : i < n + 2) (hv : v < n + 1) : ∃ kk : Nat, Int.tmod ((i : Int) + 1 + (v : Int)) ((n : Int) + 2) = (kk : Int) ∧ kk < n + 2 ∧ kk ≠ i := by
  by_cases hc : i + 1 + v < n + 2
  · exact ⟨i + 1 + v, by rw [Int.tmod_eq_of_lt (by omega) (by omega)]; omega, hc, by omega⟩
  · refine ⟨i + 1 + v - (n + 2), ?_, by omega, by omega⟩
    have e : ((i : Int) + 1 + (v : Int)) = ((i + 1 + v - (n + 2) : Nat) : Int) + ((n : Int) + 2) * 1 := by omega
    rw [Int.tmod_eq_emod_of_nonneg (by omega), e, Int.add_mul_emod_self_left, Int.emod_eq_of_lt (by omega) (by omega)]
theorem min8 (n : Nat) : ∃ N, N ≤ n ∧ N ≤ 8 ∧ (N = n ∨ N = 8) := by
  by_cases h : n ≤ 8
  · exact ⟨n, Nat.le_refl _, h, .inl rfl⟩
  · exact ⟨8, by omega, Nat.le_refl _, .inr rfl⟩
theorem RsDetects : ramekinlaw5_RsDetects.Pure := by
  intro l0 a1 a2 a3 l4 h1 h2 h3 h4 h5 h6 h7 h8 h9
  unfold maxLen at h1 h7
  have hb : Bytes l4 := fun x hx => by
    have h := h9 x hx
    have : 0 ≤ x ∧ x ≤ 255 := by simpa [Lit.wf, IntKind.min, IntKind.max, IntKind.signed, IntKind.bits] using h
    exact ⟨this.1, by omega⟩
  obtain ⟨m0, em, hm0⟩ := ud_mod a1 5 (by omega)
  obtain ⟨L, hL, hlen, hrow, hB⟩ := ud_rows l0 (4 + m0) 8 (by omega) (by omega) (by omega)
  have hG : Tw.GoodR 8 L := fun r hr => ⟨hrow r hr, hB r hr⟩
  have hpar := ud_refpar L 8 hrow hB (by omega) (by omega) (by omega)
  have hC := code_of hG
  have hAl : (L ++ [sumP L 8, sumQ L 8]).length = L.length + 2 := by simp
  clear h1 h2 h3 h4 h5 h6 h7 h8 h9 hG hrow hB
  obtain ⟨i, ei, hi⟩ := ud_mod a2 (L.length + 2) (by omega)
  obtain ⟨v, ev, hv⟩ := ud_mod a3 (L.length + 1) (by omega)
  obtain ⟨kk, hkk, hkl, hne⟩ := next_ne i v L.length hi hv
  have EM := Aside0.mk em
  have EI := Aside0.mk ei
  have EV := Aside0.mk ev
  have HKK := Aside0.mk hkk
  clear em ei ev hkk
  have e2 : wrap64 (4 + (m0 : Int)) = ((4 + m0 : Nat) : Int) := by rw [w64 (by omega) (by omega)]; omega
  obtain ⟨N, n1, n2, n3⟩ := min8 l4.length
  generalize hA : L ++ [sumP L 8, sumQ L 8] = A at hC hAl
  obtain ⟨X, c, F, C, hc⟩ := detects A L.length i kk N l4 hC (by omega) (by omega) hi hkl hne n2 hb
  have ak := Tw.good_row hC.good (i := kk) (by omega)
  have hlast := det_loop l4 A X i kk N c (by omega) n1 n2 n3 (by omega) ak.1 ak.2 hb F C hc N 0 (by omega) (by omega)
  have el : (((L.length + 2 : Nat)) : Int) = (L.length : Int) + 2 := rfl
  have ew : wrap64 (((L.length + 2 : Nat) : Int) - 1) = ((L.length + 1 : Nat) : Int) := by rw [w64 (n := ((L.length + 2 : Nat) : Int) - 1) (by omega) (by omega)]; omega
  have hw2 : ramekinlaw5_within.f a2 ((L.length + 2 : Nat) : Int) = some (i : Int) := by rw [ud_within a2 ((L.length + 2 : Nat) : Int) (by omega) (by omega), EI.out]
  have hw3 : ramekinlaw5_within.f a3 ((L.length + 1 : Nat) : Int) = some (v : Int) := by rw [ud_within a3 ((L.length + 1 : Nat) : Int) (by omega) (by omega), EV.out]
  have key : ∀ k, ramekinlaw5_RsDetects.f k l0 a1 a2 a3 l4 = ramekinlaw5_RsDetects.l0 k l4 A (i : Int) (kk : Int) (row A kk) false 0 := by
    intro k
    unfold ramekinlaw5_RsDetects.f
    rw [ud_known]
    simp only [Option.bind_some, ↓reduceIte]
    rw [ud_within a1 5 (by omega) (by omega)]
    simp only [Option.bind_some]
    rw [show a1 % 5 = (m0 : Int) from EM.out, e2, show (8 : Int) = ((8 : Nat) : Int) from rfl, hL]
    simp only [Option.bind_some]
    rw [hpar]
    simp only [Option.bind_some, List.nil_append, List.length_nil]
    rw [if_pos (by omega), if_pos (by simp; omega), hA, hAl]
    rw [hw2, Option.bind_some, ew, hw3, Option.bind_some]
    have er : rd_L2 A (kk : Int) = row A kk := by unfold rd_L2 row; simp
    rw [if_neg (by omega), w64 (n := (i : Int) + 1) (by omega) (by omega), w64 (n := (i : Int) + 1 + (v : Int)) (by omega) (by omega), el, HKK.out, if_pos (by omega), if_pos (by omega), er, if_pos (by rw [ak.1]; omega)]
  refine Ev.rounds (Ev.congr key ?_)
  rw [part_zero] at hlast
  exact hlast
end Go.Proofs.Ytdbnladpogpiiaa.Pure
