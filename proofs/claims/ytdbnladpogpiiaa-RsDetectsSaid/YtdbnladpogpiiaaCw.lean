/-
  What rs.Fix makes: rows that are not lost stay; made again nothing changes; with two rows lost the parities are right.
-/
import Derived.Test.YtdbnladpogpiiaaCo
namespace Go.Proofs.Ytdbnladpogpiiaa.Cw
open Go.RowKit Go.Proofs.YtdbnladpogpiiaaW.PrintWords
open Go.Proofs.Ytdbnladpogpiiaa.PRq Go.Proofs.Ytdbnladpogpiiaa.Fld Go.Proofs.Ytdbnladpogpiiaa.Pl Go.Proofs.Ytdbnladpogpiiaa.Ot Go.Proofs.Ytdbnladpogpiiaa.Tw Go.Proofs.Ytdbnladpogpiiaa.Kp Go.Proofs.Ytdbnladpogpiiaa.Fw Go.Proofs.Ytdbnladpogpiiaa.Co
open Go.Proofs.Ytdbnladpogpiiaa.Base (mulN)
set_option linter.unusedSimpArgs false
set_option linter.unusedVariables false

/-! ### rows that stay -/
theorem parR_len : ∀ (gone : List Nat) (out : List (List Int)) (d n : Nat), (parR out gone d n).length = out.length
  | [], _, _, _ => rfl
  | i :: t, out, d, n => by
    show (parR (if i ≥ d then out.set i _ else out) t d n).length = _
    rw [parR_len t]
    split <;> simp
theorem parR_row : ∀ (gone : List Nat) (out : List (List Int)) (d n j : Nat), j ∉ gone → row (parR out gone d n) j = row out j
  | [], _, _, _, _, _ => rfl
  | i :: t, out, d, n, j, h => by
    rw [List.mem_cons, not_or] at h
    show row (parR (if i ≥ d then out.set i _ else out) t d n) j = _
    rw [parR_row t _ d n j h.2]
    split
    · exact Tw.row_set_ne (Ne.symm h.1) _
    · rfl
theorem dataR_len (out : List (List Int)) (gone : List Nat) (d : Nat) (p q : List Int) : (dataR out gone d p q).length = out.length := by
  unfold dataR
  split
  · rfl
  · split <;> simp
  · split
    · rfl
    · split
      · exact two_len _ _ _ _ _
      · split <;> simp
theorem dataR_row (out : List (List Int)) (gone : List Nat) (d j : Nat) (p q : List Int) (h : j ∉ gone) : row (dataR out gone d p q) j = row out j := by
  unfold dataR
  split
  · rfl
  · simp only [List.mem_singleton] at h
    split
    · rfl
    · exact Tw.row_set_ne (Ne.symm h) _
  · rename_i a b t
    simp only [List.mem_cons, not_or] at h
    split
    · rfl
    · split
      · unfold twoR
        rw [Tw.row_set_ne (Ne.symm h.2.1), Tw.row_set_ne (Ne.symm h.1)]
      · split
        · exact Tw.row_set_ne (Ne.symm h.1) _
        · exact Tw.row_set_ne (Ne.symm h.1) _
theorem srt_mem {lost : List Int} {x : Int} (h2 : lost.length ≤ 2) : x ∈ srt lost ↔ x ∈ lost := by
  match lost, h2 with
  | [], _ => rfl
  | [a], _ => rfl
  | [a, b], _ =>
    unfold srt
    by_cases h : a ≤ b
    · simp [h]
    · simp [h, or_comm]
theorem row_ext {A B : List (List Int)} (h1 : A.length = B.length) (h : ∀ i, i < A.length → row A i = row B i) : A = B := by
  apply List.ext_getElem h1
  intro i h2 h3
  rw [← row_lt h2, ← row_lt h3, h i h2]
theorem ownR_row (L : List (List Int)) (lost : List Int) (n i : Nat) (hi : i < L.length) : row (ownR L lost n) i = if lost.contains (i : Int) then List.replicate n 0 else row L i := by
  rw [row_lt (by rw [own_len]; exact hi), row_lt hi]
  simp only [ownR, List.getElem_mapIdx]
theorem fixR_len (L : List (List Int)) (lost : List Int) : (fixR L lost).length = L.length := by
  unfold fixR
  simp only
  rw [parR_len, dataR_len, own_len]
theorem fixR_row (L : List (List Int)) (lost : List Int) (h2 : lost.length ≤ 2) (i : Nat) (hi : i < L.length) (hc : lost.contains (i : Int) = false) (h0 : ∀ x ∈ lost, 0 ≤ x) : row (fixR L lost) i = row L i := by
  have hn : i ∉ (srt lost).map Int.toNat := by
    intro h
    obtain ⟨x, hx, e⟩ := List.mem_map.1 h
    rw [srt_mem h2] at hx
    have h1 := h0 x hx
    have e2 : x = (i : Int) := by omega
    rw [e2] at hx
    have : lost.contains (i : Int) = true := by simpa using hx
    rw [this] at hc
    cases hc
  unfold fixR
  simp only
  rw [parR_row _ _ _ _ _ hn, dataR_row _ _ _ _ _ _ hn, ownR_row _ _ _ _ hi, hc]
  simp
theorem again (L : List (List Int)) (lost : List Int) (h2 : lost.length ≤ 2) (h0 : ∀ x ∈ lost, 0 ≤ x) : kept (fixR L lost) lost = kept L lost ∧ (∀ n, ownR (fixR L lost) lost n = ownR L lost n) ∧ fixR (fixR L lost) lost = fixR L lost ∧ mayB (fixR L lost) lost = mayB L lost := by
  have hl := fixR_len L lost
  have hr : ∀ i, i < L.length → lost.contains (i : Int) = false → row (fixR L lost) i = row L i := fun i hi hc => fixR_row L lost h2 i hi hc h0
  have hk : kept (fixR L lost) lost = kept L lost := by
    rw [kept_idx, kept_idx, hl]
    apply List.map_congr_left
    intro i hi
    have h3 := idx_lt hi
    unfold idx at hi
    rw [List.mem_filter] at hi
    exact hr i h3 (by simpa using hi.2)
  have ho : ∀ n, ownR (fixR L lost) lost n = ownR L lost n := fun n => by
    refine row_ext (by rw [own_len, own_len, hl]) (fun i hi => ?_)
    rw [own_len, hl] at hi
    rw [ownR_row _ _ _ _ (by rw [hl]; exact hi), ownR_row _ _ _ _ hi]
    split
    · rfl
    · rename_i hc
      exact hr i hi (Bool.eq_false_iff.2 hc)
  refine ⟨hk, ho, ?_, ?_⟩
  · generalize hX : fixR L lost = X at hk ho hl
    unfold fixR
    simp only
    rw [hk, ho, hl]
    rw [← hX]
    unfold fixR
    rfl
  · unfold mayB
    rw [hk, hl]

/-! ### the sums of rows of which one is another -/
theorem xorI_cancel (u p v : Int) : xorI (xorI u p) (xorI u v) = xorI v p := by
  unfold xorI
  simp only [Int.toNat_natCast]
  congr 1
  rw [Nat.xor_comm u.toNat p.toNat, Nat.xor_assoc, ← Nat.xor_assoc u.toNat, Nat.xor_self, Nat.zero_xor, Nat.xor_comm]
theorem pS_set : ∀ (L : List (List Int)) (a : Nat) (r : List Int) (k : Nat), a < L.length → pS (L.set a r) k = xorI (pS L k) (xorI (at_ (row L a) k) (at_ r k))
  | r0 :: L, 0, r, k, _ => by
    simp only [List.set_cons_zero, pS]
    have e : row (r0 :: L) 0 = r0 := rfl
    rw [e, xorI_cancel]
  | r0 :: L, a + 1, r, k, h => by
    simp only [List.set_cons_succ, pS]
    have e : row (r0 :: L) (a + 1) = row L a := rfl
    rw [e, pS_set L a r k (by simpa using h), xorI_assoc]
theorem qS_set : ∀ (L : List (List Int)) (s a : Nat) (r : List Int) (k : Nat), a < L.length → (∀ x ∈ L, Bytes x) → Bytes r → qS s (L.set a r) k = xorI (qS s L k) (mulI (expI (s + a)) (xorI (at_ (row L a) k) (at_ r k)))
  | r0 :: L, s, 0, r, k, _, hL, hr => by
    simp only [List.set_cons_zero, qS]
    have e : row (r0 :: L) 0 = r0 := rfl
    rw [e, mulI_xor (byt_at (hL r0 (by simp)) k) (byt_at hr k), show s + 0 = s from rfl, xorI_cancel]
  | r0 :: L, s, a + 1, r, k, h, hL, hr => by
    simp only [List.set_cons_succ, qS]
    have e : row (r0 :: L) (a + 1) = row L a := rfl
    have e2 : s + 1 + a = s + (a + 1) := by omega
    rw [e, qS_set L (s + 1) a r k (by simpa using h) (fun x hx => hL x (by simp [hx])) hr, xorI_assoc, e2]
theorem addR_at (t x : List Int) (b : Int) (k : Nat) (h1 : k < t.length) (h2 : k < x.length) : at_ (addR t x b) k = xorI (at_ t k) (mulI (at_ x k) b) := by
  rw [at_lt (by rw [addR_len]; exact h1), at_lt h1]
  simp [addR, h2]
theorem mulI_inv {x : Int} (hx : Byt x) (h0 : x ≠ 0) : mulI x (invI x) = 1 := by
  obtain ⟨a, rfl⟩ := Int.eq_ofNat_of_zero_le hx.1
  unfold mulI invI
  have h2 := hx.2
  have := mul_inv (a := a) (by omega) (by intro h; exact h0 (by rw [h]; rfl))
  simp only [Int.ofNat_eq_natCast, Int.toNat_natCast] at *
  rw [this]; rfl
theorem xorI_self_left {x : Int} (y : Int) (h : Byt y) : xorI x (xorI x y) = y := by
  rw [← xorI_assoc, xorI_self, zero_xorI h]
theorem mul_cancel {x y : Int} (hx : Byt x) (hy : Byt y) (h0 : x ≠ 0) : mulI x (mulI y (invI x)) = y := by
  rw [mulI_comm hy (byt_inv hx), ← mulI_assoc hx (byt_inv hx) hy, mulI_inv hx h0, mulI_comm ⟨by omega, by omega⟩ hy, mulI_one hy]
theorem solve_q {x Q w : Int} (hx : Byt x) (h0 : x ≠ 0) (hQ : Byt Q) (hw : Byt w) : xorI Q (mulI x (xorI 0 (xorI 0 (mulI (xorI Q (mulI w 1)) (invI x))))) = w := by
  rw [mulI_one hw, zero_xorI (byt_mul (byt_inv hx)), zero_xorI (byt_mul (byt_inv hx)), mul_cancel hx (byt_xor hQ hw) h0, xorI_self_left _ hw]
theorem solve_p {P v : Int} (hP : Byt P) (hv : Byt v) : xorI P (xorI 0 (xorI 0 (mulI (xorI P (mulI v 1)) 1))) = v := by
  have h1 : Byt 1 := ⟨by omega, by omega⟩
  rw [mulI_one hv, mulI_one (byt_xor hP hv), zero_xorI (byt_xor hP hv), zero_xorI (byt_xor hP hv), xorI_self_left _ hv]
theorem two_p {P p r : Int} (hP : Byt P) (hp : Byt p) (hr : Byt r) : xorI (xorI P (xorI 0 r)) (xorI 0 (xorI (xorI 0 (mulI p 1)) (mulI r 1))) = xorI P p := by
  rw [mulI_one hp, mulI_one hr, zero_xorI hr, zero_xorI hp, zero_xorI (byt_xor hp hr), xorI_comm p r, xorI_assoc, xorI_self_left _ hp]
theorem two_q {x y Q q p : Int} (hx : Byt x) (hy : Byt y) (h0 : xorI x y ≠ 0) (hQ : Byt Q) (hq : Byt q) (hp : Byt p) {r : Int} (hr : r = xorI (xorI 0 (mulI q (invI (xorI x y)))) (mulI p (mulI (invI (xorI x y)) y))) :
    xorI (xorI Q (mulI x (xorI 0 r))) (mulI y (xorI 0 (xorI (xorI 0 (mulI p 1)) (mulI r 1)))) = xorI Q q := by
  have hz := byt_xor hx hy
  have hE := byt_inv hz
  have br : Byt r := by rw [hr]; exact byt_xor (byt_xor byt_zero (byt_mul hE)) (byt_mul (byt_mul hy))
  have e1 : mulI (xorI x y) r = xorI q (mulI y p) := by
    rw [hr, zero_xorI (byt_mul hE), mulI_xor (byt_mul hE) (byt_mul (byt_mul hy)), mul_cancel hz hq h0, mulI_comm hE hy, ← mulI_assoc hp hy hE, mul_cancel hz (byt_mul hy) h0, mulI_comm hp hy]
  have e2 : mulI (xorI x y) r = xorI (mulI x r) (mulI y r) := by
    rw [mulI_comm hz br, mulI_xor hx hy, mulI_comm br hx, mulI_comm br hy]
  rw [mulI_one hp, mulI_one br, zero_xorI br, zero_xorI hp, zero_xorI (byt_xor hp br), mulI_xor hp br, xorI_swap, ← e2, e1, xorI_comm Q (mulI y p), xorI_comm q (mulI y p), xorI_cancel, xorI_comm]
theorem take_set_lt {L : List (List Int)} (i d : Nat) (r : List Int) : (L.set i r).take d = (L.take d).set i r := by
  apply List.ext_getElem (by simp)
  intro j h1 h2
  have hj : j < (L.take d).length := by simpa using h2
  rw [List.getElem_take, List.getElem_set, List.getElem_set]
  split
  · rfl
  · rw [List.getElem_take]
theorem take_set_ge {L : List (List Int)} {i d : Nat} (h : d ≤ i) (r : List Int) : (L.set i r).take d = L.take d := by
  rw [take_set_lt, List.set_eq_of_length_le (by rw [List.length_take]; omega)]
theorem row_take {L : List (List Int)} {i d : Nat} (h : i < d) : row (L.take d) i = row L i := by unfold row; simp [List.getElem?_take, h]
theorem at_zero (n k : Nat) : at_ (List.replicate n 0) k = 0 := by
  unfold at_
  rw [List.getD_eq_getElem?_getD, List.getElem?_replicate]
  split <;> rfl
/-- with two rows lost the parities come out right -/
theorem code_two {R : List (List Int)} {n d a b : Nat} (hR : GoodR n R) (hl : R.length = d + 2) (hab : a < b) (hb : b < d + 2) (h16 : R.length ≤ 16) (za : row R a = List.replicate n 0) (zb : row R b = List.replicate n 0) {X : List (List Int)}
    (hX : X = parR (dataR R [a, b] d (addR (sumP (R.take d) n) (row R d) 1) (addR (sumQ (R.take d) n) (row R (d + 1)) 1)) [a, b] d n) : sumP (X.take d) n = row X d ∧ sumQ (X.take d) n = row X (d + 1) := by
  have gT := good_take (m := d) hR
  have bT : ∀ x ∈ R.take d, Bytes x := fun x hx => (gT x hx).2
  have lT : (R.take d).length = d := by rw [List.length_take]; omega
  obtain ⟨gd1, gd2⟩ := Tw.good_row hR (i := d) (by omega)
  obtain ⟨ge1, ge2⟩ := Tw.good_row hR (i := d + 1) (by omega)
  have hpS : ∀ k, Byt (pS (R.take d) k) := fun k => byt_pS _ k bT
  have hqS : ∀ k, Byt (qS 0 (R.take d) k) := fun k => byt_qS 0 _ k bT
  have pk : ∀ k, k < n → at_ (addR (sumP (R.take d) n) (row R d) 1) k = xorI (pS (R.take d) k) (mulI (at_ (row R d) k) 1) := fun k hk => by
    rw [addR_at _ _ _ _ (by rw [sumP_len]; exact hk) (by rw [gd1]; exact hk), sumP_at _ hk]
  have qk : ∀ k, k < n → at_ (addR (sumQ (R.take d) n) (row R (d + 1)) 1) k = xorI (qS 0 (R.take d) k) (mulI (at_ (row R (d + 1)) k) 1) := fun k hk => by
    rw [addR_at _ _ _ _ (by rw [sumQ_len]; exact hk) (by rw [ge1]; exact hk), sumQ_at _ hk]
  have hpl : (addR (sumP (R.take d) n) (row R d) 1).length = n := by rw [addR_len, sumP_len]
  have hql : (addR (sumQ (R.take d) n) (row R (d + 1)) 1).length = n := by rw [addR_len, sumQ_len]
  have b1 : Byt 1 := ⟨by omega, by omega⟩
  have bp : Bytes (addR (sumP (R.take d) n) (row R d) 1) := bytes_addR (bytes_sumP _ _ bT) gd2 b1
  have bq : Bytes (addR (sumQ (R.take d) n) (row R (d + 1)) 1) := bytes_addR (bytes_sumQ _ _ bT) ge2 b1
  obtain ⟨p, hp⟩ : ∃ p, p = addR (sumP (R.take d) n) (row R d) 1 := ⟨_, rfl⟩
  obtain ⟨q, hq⟩ : ∃ q, q = addR (sumQ (R.take d) n) (row R (d + 1)) 1 := ⟨_, rfl⟩
  rw [← hp] at pk hpl bp hX
  rw [← hq] at qk hql bq hX
  have ex : ∀ i, expI i ≠ 0 := fun i h => pw_ne_zero i (by unfold expI at h; omega)
  by_cases had : d ≤ a
  · obtain rfl : a = d := by omega
    obtain rfl : b = a + 1 := by omega
    have hX2 : X = (R.set a (sumP (R.take a) n)).set (a + 1) (sumQ (R.take a) n) := by
      rw [hX]
      simp [dataR, parR, take_set_ge (Nat.le_refl a)]
    have ht : X.take a = R.take a := by rw [hX2, take_set_ge (by omega), take_set_ge (Nat.le_refl a)]
    rw [ht, hX2]
    refine ⟨?_, ?_⟩
    · rw [Tw.row_set_ne (by omega), Tw.row_set_self (by omega)]
    · rw [Tw.row_set_self (by rw [List.length_set]; omega)]
  · have haT : a < (R.take d).length := by omega
    have raT : row (R.take d) a = List.replicate n 0 := by rw [row_take (by omega)]; exact za
    have raL : (row R a).length = n := by rw [za]; simp
    have raB : Bytes (row R a) := by rw [za]; intro x hx; rw [List.mem_replicate] at hx; rw [hx.2]; exact byt_zero
    by_cases hbd : b < d
    · have hX2 : X = twoR R a b p q := by
        rw [hX]
        simp [dataR, parR, had, hbd, show ¬ d ≤ b from by omega]
      obtain ⟨ra, hra⟩ : ∃ ra, ra = addR (addR (row R a) q (invI (xorI (expI a) (expI b)))) p (mulI (invI (xorI (expI a) (expI b))) (expI b)) := ⟨_, rfl⟩
      obtain ⟨rb, hrb⟩ : ∃ rb, rb = addR (addR (row R b) p 1) ra 1 := ⟨_, rfl⟩
      have hX3 : X = (R.set a ra).set b rb := by rw [hX2, hrb, hra]; rfl
      have bE := byt_inv (byt_xor (byt_exp a) (byt_exp b))
      have rbL : (row R b).length = n := by rw [zb]; simp
      have rbB : Bytes (row R b) := by rw [zb]; intro x hx; rw [List.mem_replicate] at hx; rw [hx.2]; exact byt_zero
      have bra : Bytes ra := by rw [hra]; exact bytes_addR (bytes_addR raB bq bE) bp (byt_mul (byt_exp b))
      have lra : ra.length = n := by rw [hra, addR_len, addR_len, raL]
      have brb : Bytes rb := by rw [hrb]; exact bytes_addR (bytes_addR rbB bp b1) bra b1
      have rk : ∀ k, k < n → at_ ra k = xorI (xorI 0 (mulI (at_ q k) (invI (xorI (expI a) (expI b))))) (mulI (at_ p k) (mulI (invI (xorI (expI a) (expI b))) (expI b))) := fun k hk => by
        rw [hra, addR_at _ _ _ _ (by rw [addR_len, raL]; exact hk) (by rw [hpl]; exact hk), addR_at _ _ _ _ (by rw [raL]; exact hk) (by rw [hql]; exact hk), za, at_zero]
      have sk : ∀ k, k < n → at_ rb k = xorI (xorI 0 (mulI (at_ p k) 1)) (mulI (at_ ra k) 1) := fun k hk => by
        rw [hrb, addR_at _ _ _ _ (by rw [addR_len, rbL]; exact hk) (by rw [lra]; exact hk), addR_at _ _ _ _ (by rw [rbL]; exact hk) (by rw [hpl]; exact hk), zb, at_zero]
      have ht : X.take d = ((R.take d).set a ra).set b rb := by rw [hX3, take_set_lt, take_set_lt]
      have hbT : b < ((R.take d).set a ra).length := by rw [List.length_set]; omega
      have rbT : row ((R.take d).set a ra) b = List.replicate n 0 := by rw [Tw.row_set_ne (by omega), row_take hbd]; exact zb
      have bS : ∀ x ∈ (R.take d).set a ra, Bytes x := by
        intro x hx
        rcases List.mem_or_eq_of_mem_set hx with hx | rfl
        · exact bT x hx
        · exact bra
      have hrd : ∀ j, d ≤ j → row X j = row R j := fun j hj => by rw [hX3, Tw.row_set_ne (by omega), Tw.row_set_ne (by omega)]
      refine ⟨?_, ?_⟩
      · rw [ht, hrd d (Nat.le_refl d)]
        refine ext_at (by rw [sumP_len, gd1]) (fun k hk => ?_)
        rw [sumP_len] at hk
        rw [sumP_at _ hk, pS_set _ b rb k hbT, rbT, at_zero, pS_set _ a ra k haT, raT, at_zero, sk k hk, two_p (hpS k) (byt_at bp k) (byt_at bra k), pk k hk, mulI_one (byt_at gd2 k), xorI_self_left _ (byt_at gd2 k)]
      · rw [ht, hrd (d + 1) (by omega)]
        refine ext_at (by rw [sumQ_len, ge1]) (fun k hk => ?_)
        rw [sumQ_len] at hk
        rw [sumQ_at _ hk, qS_set _ 0 b rb k hbT bS brb, rbT, at_zero, qS_set _ 0 a ra k haT bT bra, raT, at_zero, sk k hk, Nat.zero_add, Nat.zero_add,
          two_q (byt_exp a) (byt_exp b) (Tw.xor_ne (by omega) (by omega) (by omega)) (hqS k) (byt_at bq k) (byt_at bp k) (rk k hk), qk k hk, mulI_one (byt_at ge2 k), xorI_self_left _ (byt_at ge2 k)]
    · by_cases hbe : b = d
      · obtain ⟨ra, hra⟩ : ∃ ra, ra = addR (row R a) q (invI (expI a)) := ⟨_, rfl⟩
        have hX2 : X = (R.set a ra).set d (sumP ((R.set a ra).take d) n) := by
          rw [hX, hra]
          simp [dataR, parR, had, hbe]
        have ht : X.take d = (R.take d).set a ra := by rw [hX2, take_set_ge (Nat.le_refl d), take_set_lt]
        have bra : Bytes ra := by rw [hra]; exact bytes_addR raB bq (byt_inv (byt_exp a))
        refine ⟨?_, ?_⟩
        · rw [ht, hX2, Tw.row_set_self (by rw [List.length_set]; omega), take_set_lt]
        · rw [ht, hX2, Tw.row_set_ne (by omega), Tw.row_set_ne (by omega)]
          refine ext_at (by rw [sumQ_len, ge1]) (fun k hk => ?_)
          rw [sumQ_len] at hk
          rw [sumQ_at _ hk, qS_set _ 0 a ra k haT bT bra, raT, at_zero, hra, addR_at _ _ _ _ (by rw [raL]; exact hk) (by rw [hql]; exact hk), za, at_zero, qk k hk, Nat.zero_add]
          exact solve_q (byt_exp a) (ex a) (hqS k) (byt_at ge2 k)
      · obtain rfl : b = d + 1 := by omega
        obtain ⟨ra, hra⟩ : ∃ ra, ra = addR (row R a) p 1 := ⟨_, rfl⟩
        have hX2 : X = (R.set a ra).set (d + 1) (sumQ ((R.set a ra).take d) n) := by
          rw [hX, hra]
          simp [dataR, parR, had, show ¬ d + 1 < d from by omega]
        have ht : X.take d = (R.take d).set a ra := by rw [hX2, take_set_ge (by omega), take_set_lt]
        refine ⟨?_, ?_⟩
        · rw [ht, hX2, Tw.row_set_ne (by omega), Tw.row_set_ne (by omega)]
          refine ext_at (by rw [sumP_len, gd1]) (fun k hk => ?_)
          rw [sumP_len] at hk
          rw [sumP_at _ hk, pS_set _ a ra k haT, raT, at_zero, hra, addR_at _ _ _ _ (by rw [raL]; exact hk) (by rw [hpl]; exact hk), za, at_zero, pk k hk]
          exact solve_p (hpS k) (byt_at gd2 k)
        · rw [ht, hX2, Tw.row_set_self (by rw [List.length_set]; omega), take_set_lt]
end Go.Proofs.Ytdbnladpogpiiaa.Cw
