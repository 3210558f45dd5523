/-
  Rows, checks, places; what the document's Fix makes: plainly.
-/
import Derived.Test.YtdbnladpogpiiaaFw
import Derived.Test.YtdbnladpogpiiaaPRrx2
import Derived.Test.YtdbnladpogpiiaaPRqx0
import Derived.Test.YtdbnladpogpiiaaFx
import Derived.Test.YtdbnladpogpiiaaKp
import Derived.Test.YtdbnladpogpiiaaOt
import Derived.Lib.Hide
import Derived.Lib.Bytes
namespace Go.Proofs.Ytdbnladpogpiiaa.Co
open Go.RowKit Go.Proofs.YtdbnladpogpiiaaW.PrintWords
open Go.Proofs.Ytdbnladpogpiiaa.PRq Go.Proofs.Ytdbnladpogpiiaa.Fld Go.Proofs.Ytdbnladpogpiiaa.Pl Go.Proofs.Ytdbnladpogpiiaa.Ot Go.Proofs.Ytdbnladpogpiiaa.Tw Go.Proofs.Ytdbnladpogpiiaa.Kp Go.Proofs.Ytdbnladpogpiiaa.Fw
set_option linter.unusedSimpArgs false
set_option linter.unusedVariables false

theorem fixF_of {L : List (List Int)} {lost : List Int} (hb : ∀ r ∈ L, Bytes r) (hl : ∀ r ∈ L, r.length ≤ 1000000) (h1 : lost.length ≤ 1000000) (h2 : L.length ≤ 1000000) : fixF L lost = if mayB L lost then some (fixR L lost, true) else some ([], false) := by
  unfold fixF
  rw [if_pos ⟨hb, hl, h1, h2⟩]
end Go.Proofs.Ytdbnladpogpiiaa.Co
namespace Go.Proofs.Ytdbnladpogpiiaa.Cw
open Go.RowKit Go.Proofs.YtdbnladpogpiiaaW.PrintWords
open Go.Proofs.Ytdbnladpogpiiaa.PRq Go.Proofs.Ytdbnladpogpiiaa.Fld Go.Proofs.Ytdbnladpogpiiaa.Pl Go.Proofs.Ytdbnladpogpiiaa.Ot Go.Proofs.Ytdbnladpogpiiaa.Tw Go.Proofs.Ytdbnladpogpiiaa.Kp Go.Proofs.Ytdbnladpogpiiaa.Fw Go.Proofs.Ytdbnladpogpiiaa.Co
open Go.Proofs.Ytdbnladpogpiiaa.Base (mulN)
set_option linter.unusedSimpArgs false
set_option linter.unusedVariables false

/-! ### rows that stay -/
theorem parR_len : ∀ (gone : List Nat) (out : List (List Int)) (d n : Nat), (parR out gone d n).length = out.length
  | [], _, _, _ => rfl
  | i :: t, out, d, n => by
    show (parR (if i ≥ d then out.set i _ else out) t d n).length = _
    rw [parR_len t]
    split <;> simp
theorem parR_row : ∀ (gone : List Nat) (out : List (List Int)) (d n j : Nat), j ∉ gone → row (parR out gone d n) j = row out j
  | [], _, _, _, _, _ => rfl
  | i :: t, out, d, n, j, h => by
    rw [List.mem_cons, not_or] at h
    show row (parR (if i ≥ d then out.set i _ else out) t d n) j = _
    rw [parR_row t _ d n j h.2]
    split
    · exact Tw.row_set_ne (Ne.symm h.1) _
    · rfl
theorem dataR_len (out : List (List Int)) (gone : List Nat) (d : Nat) (p q : List Int) : (dataR out gone d p q).length = out.length := by
  unfold dataR
  split
  · rfl
  · split <;> simp
  · split
    · rfl
    · split
      · exact two_len _ _ _ _ _
      · split <;> simp
theorem dataR_row (out : List (List Int)) (gone : List Nat) (d j : Nat) (p q : List Int) (h : j ∉ gone) : row (dataR out gone d p q) j = row out j := by
  unfold dataR
  split
  · rfl
  · simp only [List.mem_singleton] at h
    split
    · rfl
    · exact Tw.row_set_ne (Ne.symm h) _
  · rename_i a b t
    simp only [List.mem_cons, not_or] at h
    split
    · rfl
    · split
      · unfold twoR
        rw [Tw.row_set_ne (Ne.symm h.2.1), Tw.row_set_ne (Ne.symm h.1)]
      · split
        · exact Tw.row_set_ne (Ne.symm h.1) _
        · exact Tw.row_set_ne (Ne.symm h.1) _
theorem srt_mem {lost : List Int} {x : Int} (h2 : lost.length ≤ 2) : x ∈ srt lost ↔ x ∈ lost := by
  match lost, h2 with
  | [], _ => rfl
  | [a], _ => rfl
  | [a, b], _ =>
    unfold srt
    by_cases h : a ≤ b
    · simp [h]
    · simp [h, or_comm]
theorem row_ext {A B : List (List Int)} (h1 : A.length = B.length) (h : ∀ i, i < A.length → row A i = row B i) : A = B := by
  apply List.ext_getElem h1
  intro i h2 h3
  rw [← row_lt h2, ← row_lt h3, h i h2]
theorem ownR_row (L : List (List Int)) (lost : List Int) (n i : Nat) (hi : i < L.length) : row (ownR L lost n) i = if lost.contains (i : Int) then List.replicate n 0 else row L i := by
  rw [row_lt (by rw [own_len]; exact hi), row_lt hi]
  simp only [ownR, List.getElem_mapIdx]
theorem fixR_len (L : List (List Int)) (lost : List Int) : (fixR L lost).length = L.length := by
  unfold fixR
  simp only
  rw [parR_len, dataR_len, own_len]
theorem fixR_row (L : List (List Int)) (lost : List Int) (h2 : lost.length ≤ 2) (i : Nat) (hi : i < L.length) (hc : lost.contains (i : Int) = false) (h0 : ∀ x ∈ lost, 0 ≤ x) : row (fixR L lost) i = row L i := by
  have hn : i ∉ (srt lost).map Int.toNat := by
    intro h
    obtain ⟨x, hx, e⟩ := List.mem_map.1 h
    rw [srt_mem h2] at hx
    have h1 := h0 x hx
    have e2 : x = (i : Int) := by omega
    rw [e2] at hx
    have : lost.contains (i : Int) = true := by simpa using hx
    rw [this] at hc
    cases hc
  unfold fixR
  simp only
  rw [parR_row _ _ _ _ _ hn, dataR_row _ _ _ _ _ _ hn, ownR_row _ _ _ _ hi, hc]
  simp
theorem again (L : List (List Int)) (lost : List Int) (h2 : lost.length ≤ 2) (h0 : ∀ x ∈ lost, 0 ≤ x) : kept (fixR L lost) lost = kept L lost ∧ (∀ n, ownR (fixR L lost) lost n = ownR L lost n) ∧ fixR (fixR L lost) lost = fixR L lost ∧ mayB (fixR L lost) lost = mayB L lost := by
  have hl := fixR_len L lost
  have hr : ∀ i, i < L.length → lost.contains (i : Int) = false → row (fixR L lost) i = row L i := fun i hi hc => fixR_row L lost h2 i hi hc h0
  have hk : kept (fixR L lost) lost = kept L lost := by
    rw [kept_idx, kept_idx, hl]
    apply List.map_congr_left
    intro i hi
    have h3 := idx_lt hi
    unfold idx at hi
    rw [List.mem_filter] at hi
    exact hr i h3 (by simpa using hi.2)
  have ho : ∀ n, ownR (fixR L lost) lost n = ownR L lost n := fun n => by
    refine row_ext (by rw [own_len, own_len, hl]) (fun i hi => ?_)
    rw [own_len, hl] at hi
    rw [ownR_row _ _ _ _ (by rw [hl]; exact hi), ownR_row _ _ _ _ hi]
    split
    · rfl
    · rename_i hc
      exact hr i hi (Bool.eq_false_iff.2 hc)
  refine ⟨hk, ho, ?_, ?_⟩
  · generalize hX : fixR L lost = X at hk ho hl
    unfold fixR
    simp only
    rw [hk, ho, hl]
    rw [← hX]
    unfold fixR
    rfl
  · unfold mayB
    rw [hk, hl]

/-! ### the sums of rows of which one is another -/
theorem xorI_cancel (u p v : Int) : xorI (xorI u p) (xorI u v) = xorI v p := by
  unfold xorI
  simp only [Int.toNat_natCast]
  congr 1
  rw [Nat.xor_comm u.toNat p.toNat, Nat.xor_assoc, ← Nat.xor_assoc u.toNat, Nat.xor_self, Nat.zero_xor, Nat.xor_comm]
theorem pS_set : ∀ (L : List (List Int)) (a : Nat) (r : List Int) (k : Nat), a < L.length → pS (L.set a r) k = xorI (pS L k) (xorI (at_ (row L a) k) (at_ r k))
  | r0 :: L, 0, r, k, _ => by
    simp only [List.set_cons_zero, pS]
    have e : row (r0 :: L) 0 = r0 := rfl
    rw [e, xorI_cancel]
  | r0 :: L, a + 1, r, k, h => by
    simp only [List.set_cons_succ, pS]
    have e : row (r0 :: L) (a + 1) = row L a := rfl
    rw [e, pS_set L a r k (by simpa using h), xorI_assoc]
theorem qS_set : ∀ (L : List (List Int)) (s a : Nat) (r : List Int) (k : Nat), a < L.length → (∀ x ∈ L, Bytes x) → Bytes r → qS s (L.set a r) k = xorI (qS s L k) (mulI (expI (s + a)) (xorI (at_ (row L a) k) (at_ r k)))
  | r0 :: L, s, 0, r, k, _, hL, hr => by
    simp only [List.set_cons_zero, qS]
    have e : row (r0 :: L) 0 = r0 := rfl
    rw [e, mulI_xor (byt_at (hL r0 (by simp)) k) (byt_at hr k), show s + 0 = s from rfl, xorI_cancel]
  | r0 :: L, s, a + 1, r, k, h, hL, hr => by
    simp only [List.set_cons_succ, qS]
    have e : row (r0 :: L) (a + 1) = row L a := rfl
    have e2 : s + 1 + a = s + (a + 1) := by omega
    rw [e, qS_set L (s + 1) a r k (by simpa using h) (fun x hx => hL x (by simp [hx])) hr, xorI_assoc, e2]
theorem addR_at (t x : List Int) (b : Int) (k : Nat) (h1 : k < t.length) (h2 : k < x.length) : at_ (addR t x b) k = xorI (at_ t k) (mulI (at_ x k) b) := by
  rw [at_lt (by rw [addR_len]; exact h1), at_lt h1]
  simp [addR, h2]
theorem mulI_inv {x : Int} (hx : Byt x) (h0 : x ≠ 0) : mulI x (invI x) = 1 := by
  obtain ⟨a, rfl⟩ := Int.eq_ofNat_of_zero_le hx.1
  unfold mulI invI
  have h2 := hx.2
  have := mul_inv (a := a) (by omega) (by intro h; exact h0 (by rw [h]; rfl))
  simp only [Int.ofNat_eq_natCast, Int.toNat_natCast] at *
  rw [this]; rfl
theorem xorI_self_left {x : Int} (y : Int) (h : Byt y) : xorI x (xorI x y) = y := by
  rw [← xorI_assoc, xorI_self, zero_xorI h]
theorem mul_cancel {x y : Int} (hx : Byt x) (hy : Byt y) (h0 : x ≠ 0) : mulI x (mulI y (invI x)) = y := by
  rw [mulI_comm hy (byt_inv hx), ← mulI_assoc hx (byt_inv hx) hy, mulI_inv hx h0, mulI_comm ⟨by omega, by omega⟩ hy, mulI_one hy]
theorem solve_q {x Q w : Int} (hx : Byt x) (h0 : x ≠ 0) (hQ : Byt Q) (hw : Byt w) : xorI Q (mulI x (xorI 0 (xorI 0 (mulI (xorI Q (mulI w 1)) (invI x))))) = w := by
  rw [mulI_one hw, zero_xorI (byt_mul (byt_inv hx)), zero_xorI (byt_mul (byt_inv hx)), mul_cancel hx (byt_xor hQ hw) h0, xorI_self_left _ hw]
theorem solve_p {P v : Int} (hP : Byt P) (hv : Byt v) : xorI P (xorI 0 (xorI 0 (mulI (xorI P (mulI v 1)) 1))) = v := by
  have h1 : Byt 1 := ⟨by omega, by omega⟩
  rw [mulI_one hv, mulI_one (byt_xor hP hv), zero_xorI (byt_xor hP hv), zero_xorI (byt_xor hP hv), xorI_self_left _ hv]
theorem two_p {P p r : Int} (hP : Byt P) (hp : Byt p) (hr : Byt r) : xorI (xorI P (xorI 0 r)) (xorI 0 (xorI (xorI 0 (mulI p 1)) (mulI r 1))) = xorI P p := by
  rw [mulI_one hp, mulI_one hr, zero_xorI hr, zero_xorI hp, zero_xorI (byt_xor hp hr), xorI_comm p r, xorI_assoc, xorI_self_left _ hp]
theorem two_q {x y Q q p : Int} (hx : Byt x) (hy : Byt y) (h0 : xorI x y ≠ 0) (hQ : Byt Q) (hq : Byt q) (hp : Byt p) {r : Int} (hr : r = xorI (xorI 0 (mulI q (invI (xorI x y)))) (mulI p (mulI (invI (xorI x y)) y))) :
    xorI (xorI Q (mulI x (xorI 0 r))) (mulI y (xorI 0 (xorI (xorI 0 (mulI p 1)) (mulI r 1)))) = xorI Q q := by
  have hz := byt_xor hx hy
  have hE := byt_inv hz
  have br : Byt r := by rw [hr]; exact byt_xor (byt_xor byt_zero (byt_mul hE)) (byt_mul (byt_mul hy))
  have e1 : mulI (xorI x y) r = xorI q (mulI y p) := by
    rw [hr, zero_xorI (byt_mul hE), mulI_xor (byt_mul hE) (byt_mul (byt_mul hy)), mul_cancel hz hq h0, mulI_comm hE hy, ← mulI_assoc hp hy hE, mul_cancel hz (byt_mul hy) h0, mulI_comm hp hy]
  have e2 : mulI (xorI x y) r = xorI (mulI x r) (mulI y r) := by
    rw [mulI_comm hz br, mulI_xor hx hy, mulI_comm br hx, mulI_comm br hy]
  rw [mulI_one hp, mulI_one br, zero_xorI br, zero_xorI hp, zero_xorI (byt_xor hp br), mulI_xor hp br, xorI_swap, ← e2, e1, xorI_comm Q (mulI y p), xorI_comm q (mulI y p), xorI_cancel, xorI_comm]
theorem take_set_lt {L : List (List Int)} (i d : Nat) (r : List Int) : (L.set i r).take d = (L.take d).set i r := by
  apply List.ext_getElem (by simp)
  intro j h1 h2
  have hj : j < (L.take d).length := by simpa using h2
  rw [List.getElem_take, List.getElem_set, List.getElem_set]
  split
  · rfl
  · rw [List.getElem_take]
theorem take_set_ge {L : List (List Int)} {i d : Nat} (h : d ≤ i) (r : List Int) : (L.set i r).take d = L.take d := by
  rw [take_set_lt, List.set_eq_of_length_le (by rw [List.length_take]; omega)]
theorem row_take {L : List (List Int)} {i d : Nat} (h : i < d) : row (L.take d) i = row L i := by unfold row; simp [List.getElem?_take, h]
theorem at_zero (n k : Nat) : at_ (List.replicate n 0) k = 0 := by
  unfold at_
  rw [List.getD_eq_getElem?_getD, List.getElem?_replicate]
  split <;> rfl
/-- with two rows lost the parities come out right -/
theorem code_two {R : List (List Int)} {n d a b : Nat} (hR : GoodR n R) (hl : R.length = d + 2) (hab : a < b) (hb : b < d + 2) (h16 : R.length ≤ 16) (za : row R a = List.replicate n 0) (zb : row R b = List.replicate n 0) {X : List (List Int)}
    (hX : X = parR (dataR R [a, b] d (addR (sumP (R.take d) n) (row R d) 1) (addR (sumQ (R.take d) n) (row R (d + 1)) 1)) [a, b] d n) : sumP (X.take d) n = row X d ∧ sumQ (X.take d) n = row X (d + 1) := by
  have gT := good_take (m := d) hR
  have bT : ∀ x ∈ R.take d, Bytes x := fun x hx => (gT x hx).2
  have lT : (R.take d).length = d := by rw [List.length_take]; omega
  obtain ⟨gd1, gd2⟩ := Tw.good_row hR (i := d) (by omega)
  obtain ⟨ge1, ge2⟩ := Tw.good_row hR (i := d + 1) (by omega)
  have hpS : ∀ k, Byt (pS (R.take d) k) := fun k => byt_pS _ k bT
  have hqS : ∀ k, Byt (qS 0 (R.take d) k) := fun k => byt_qS 0 _ k bT
  have pk : ∀ k, k < n → at_ (addR (sumP (R.take d) n) (row R d) 1) k = xorI (pS (R.take d) k) (mulI (at_ (row R d) k) 1) := fun k hk => by
    rw [addR_at _ _ _ _ (by rw [sumP_len]; exact hk) (by rw [gd1]; exact hk), sumP_at _ hk]
  have qk : ∀ k, k < n → at_ (addR (sumQ (R.take d) n) (row R (d + 1)) 1) k = xorI (qS 0 (R.take d) k) (mulI (at_ (row R (d + 1)) k) 1) := fun k hk => by
    rw [addR_at _ _ _ _ (by rw [sumQ_len]; exact hk) (by rw [ge1]; exact hk), sumQ_at _ hk]
  have hpl : (addR (sumP (R.take d) n) (row R d) 1).length = n := by rw [addR_len, sumP_len]
  have hql : (addR (sumQ (R.take d) n) (row R (d + 1)) 1).length = n := by rw [addR_len, sumQ_len]
  have b1 : Byt 1 := ⟨by omega, by omega⟩
  have bp : Bytes (addR (sumP (R.take d) n) (row R d) 1) := bytes_addR (bytes_sumP _ _ bT) gd2 b1
  have bq : Bytes (addR (sumQ (R.take d) n) (row R (d + 1)) 1) := bytes_addR (bytes_sumQ _ _ bT) ge2 b1
  obtain ⟨p, hp⟩ : ∃ p, p = addR (sumP (R.take d) n) (row R d) 1 := ⟨_, rfl⟩
  obtain ⟨q, hq⟩ : ∃ q, q = addR (sumQ (R.take d) n) (row R (d + 1)) 1 := ⟨_, rfl⟩
  rw [← hp] at pk hpl bp hX
  rw [← hq] at qk hql bq hX
  have ex : ∀ i, expI i ≠ 0 := fun i h => pw_ne_zero i (by unfold expI at h; omega)
  by_cases had : d ≤ a
  · obtain rfl : a = d := by omega
    obtain rfl : b = a + 1 := by omega
    have hX2 : X = (R.set a (sumP (R.take a) n)).set (a + 1) (sumQ (R.take a) n) := by
      rw [hX]
      simp [dataR, parR, take_set_ge (Nat.le_refl a)]
    have ht : X.take a = R.take a := by rw [hX2, take_set_ge (by omega), take_set_ge (Nat.le_refl a)]
    rw [ht, hX2]
    refine ⟨?_, ?_⟩
    · rw [Tw.row_set_ne (by omega), Tw.row_set_self (by omega)]
    · rw [Tw.row_set_self (by rw [List.length_set]; omega)]
  · have haT : a < (R.take d).length := by omega
    have raT : row (R.take d) a = List.replicate n 0 := by rw [row_take (by omega)]; exact za
    have raL : (row R a).length = n := by rw [za]; simp
    have raB : Bytes (row R a) := by rw [za]; intro x hx; rw [List.mem_replicate] at hx; rw [hx.2]; exact byt_zero
    by_cases hbd : b < d
    · have hX2 : X = twoR R a b p q := by
        rw [hX]
        simp [dataR, parR, had, hbd, show ¬ d ≤ b from by omega]
      obtain ⟨ra, hra⟩ : ∃ ra, ra = addR (addR (row R a) q (invI (xorI (expI a) (expI b)))) p (mulI (invI (xorI (expI a) (expI b))) (expI b)) := ⟨_, rfl⟩
      obtain ⟨rb, hrb⟩ : ∃ rb, rb = addR (addR (row R b) p 1) ra 1 := ⟨_, rfl⟩
      have hX3 : X = (R.set a ra).set b rb := by rw [hX2, hrb, hra]; rfl
      have bE := byt_inv (byt_xor (byt_exp a) (byt_exp b))
      have rbL : (row R b).length = n := by rw [zb]; simp
      have rbB : Bytes (row R b) := by rw [zb]; intro x hx; rw [List.mem_replicate] at hx; rw [hx.2]; exact byt_zero
      have bra : Bytes ra := by rw [hra]; exact bytes_addR (bytes_addR raB bq bE) bp (byt_mul (byt_exp b))
      have lra : ra.length = n := by rw [hra, addR_len, addR_len, raL]
      have brb : Bytes rb := by rw [hrb]; exact bytes_addR (bytes_addR rbB bp b1) bra b1
      have rk : ∀ k, k < n → at_ ra k = xorI (xorI 0 (mulI (at_ q k) (invI (xorI (expI a) (expI b))))) (mulI (at_ p k) (mulI (invI (xorI (expI a) (expI b))) (expI b))) := fun k hk => by
        rw [hra, addR_at _ _ _ _ (by rw [addR_len, raL]; exact hk) (by rw [hpl]; exact hk), addR_at _ _ _ _ (by rw [raL]; exact hk) (by rw [hql]; exact hk), za, at_zero]
      have sk : ∀ k, k < n → at_ rb k = xorI (xorI 0 (mulI (at_ p k) 1)) (mulI (at_ ra k) 1) := fun k hk => by
        rw [hrb, addR_at _ _ _ _ (by rw [addR_len, rbL]; exact hk) (by rw [lra]; exact hk), addR_at _ _ _ _ (by rw [rbL]; exact hk) (by rw [hpl]; exact hk), zb, at_zero]
      have ht : X.take d = ((R.take d).set a ra).set b rb := by rw [hX3, take_set_lt, take_set_lt]
      have hbT : b < ((R.take d).set a ra).length := by rw [List.length_set]; omega
      have rbT : row ((R.take d).set a ra) b = List.replicate n 0 := by rw [Tw.row_set_ne (by omega), row_take hbd]; exact zb
      have bS : ∀ x ∈ (R.take d).set a ra, Bytes x := by
        intro x hx
        rcases List.mem_or_eq_of_mem_set hx with hx | rfl
        · exact bT x hx
        · exact bra
      have hrd : ∀ j, d ≤ j → row X j = row R j := fun j hj => by rw [hX3, Tw.row_set_ne (by omega), Tw.row_set_ne (by omega)]
      refine ⟨?_, ?_⟩
      · rw [ht, hrd d (Nat.le_refl d)]
        refine ext_at (by rw [sumP_len, gd1]) (fun k hk => ?_)
        rw [sumP_len] at hk
        rw [sumP_at _ hk, pS_set _ b rb k hbT, rbT, at_zero, pS_set _ a ra k haT, raT, at_zero, sk k hk, two_p (hpS k) (byt_at bp k) (byt_at bra k), pk k hk, mulI_one (byt_at gd2 k), xorI_self_left _ (byt_at gd2 k)]
      · rw [ht, hrd (d + 1) (by omega)]
        refine ext_at (by rw [sumQ_len, ge1]) (fun k hk => ?_)
        rw [sumQ_len] at hk
        rw [sumQ_at _ hk, qS_set _ 0 b rb k hbT bS brb, rbT, at_zero, qS_set _ 0 a ra k haT bT bra, raT, at_zero, sk k hk, Nat.zero_add, Nat.zero_add,
          two_q (byt_exp a) (byt_exp b) (Tw.xor_ne (by omega) (by omega) (by omega)) (hqS k) (byt_at bq k) (byt_at bp k) (rk k hk), qk k hk, mulI_one (byt_at ge2 k), xorI_self_left _ (byt_at ge2 k)]
    · by_cases hbe : b = d
      · obtain ⟨ra, hra⟩ : ∃ ra, ra = addR (row R a) q (invI (expI a)) := ⟨_, rfl⟩
        have hX2 : X = (R.set a ra).set d (sumP ((R.set a ra).take d) n) := by
          rw [hX, hra]
          simp [dataR, parR, had, hbe]
        have ht : X.take d = (R.take d).set a ra := by rw [hX2, take_set_ge (Nat.le_refl d), take_set_lt]
        have bra : Bytes ra := by rw [hra]; exact bytes_addR raB bq (byt_inv (byt_exp a))
        refine ⟨?_, ?_⟩
        · rw [ht, hX2, Tw.row_set_self (by rw [List.length_set]; omega), take_set_lt]
        · rw [ht, hX2, Tw.row_set_ne (by omega), Tw.row_set_ne (by omega)]
          refine ext_at (by rw [sumQ_len, ge1]) (fun k hk => ?_)
          rw [sumQ_len] at hk
          rw [sumQ_at _ hk, qS_set _ 0 a ra k haT bT bra, raT, at_zero, hra, addR_at _ _ _ _ (by rw [raL]; exact hk) (by rw [hql]; exact hk), za, at_zero, qk k hk, Nat.zero_add]
          exact solve_q (byt_exp a) (ex a) (hqS k) (byt_at ge2 k)
      · obtain rfl : b = d + 1 := by omega
        obtain ⟨ra, hra⟩ : ∃ ra, ra = addR (row R a) p 1 := ⟨_, rfl⟩
        have hX2 : X = (R.set a ra).set (d + 1) (sumQ ((R.set a ra).take d) n) := by
          rw [hX, hra]
          simp [dataR, parR, had, show ¬ d + 1 < d from by omega]
        have ht : X.take d = (R.take d).set a ra := by rw [hX2, take_set_ge (by omega), take_set_lt]
        refine ⟨?_, ?_⟩
        · rw [ht, hX2, Tw.row_set_ne (by omega), Tw.row_set_ne (by omega)]
          refine ext_at (by rw [sumP_len, gd1]) (fun k hk => ?_)
          rw [sumP_len] at hk
          rw [sumP_at _ hk, pS_set _ a ra k haT, raT, at_zero, hra, addR_at _ _ _ _ (by rw [raL]; exact hk) (by rw [hpl]; exact hk), za, at_zero, pk k hk]
          exact solve_p (hpS k) (byt_at gd2 k)
        · rw [ht, hX2, Tw.row_set_self (by rw [List.length_set]; omega), take_set_lt]
end Go.Proofs.Ytdbnladpogpiiaa.Cw
namespace Go.Proofs.Ytdbnladpogpiiaa.Cd
open Go.RowKit Go.Proofs.YtdbnladpogpiiaaW.PrintWords
open Go.Proofs.Ytdbnladpogpiiaa.PRq Go.Proofs.Ytdbnladpogpiiaa.Fld Go.Proofs.Ytdbnladpogpiiaa.Pl Go.Proofs.Ytdbnladpogpiiaa.Ot Go.Proofs.Ytdbnladpogpiiaa.Tw Go.Proofs.Ytdbnladpogpiiaa.Kp Go.Proofs.Ytdbnladpogpiiaa.Fw Go.Proofs.Ytdbnladpogpiiaa.Co Go.Proofs.Ytdbnladpogpiiaa.Cw
set_option linter.unusedSimpArgs false
set_option linter.unusedVariables false
/-- rows of which the last two are the parities of the others -/
structure Code (A : List (List Int)) (n d : Nat) : Prop where
  good : GoodR n A
  len : A.length = d + 2
  p : sumP (A.take d) n = row A d
  q : sumQ (A.take d) n = row A (d + 1)
theorem xorI_eq {x y : Int} (hx : Byt x) (hy : Byt y) (h : xorI x y = 0) : x = y := by
  have h1 := congrArg (xorI x) h
  rw [xorI_self_left _ hy, xorI_zero hx] at h1
  exact h1.symm
theorem mulI_eq_zero {x y : Int} (hx : Byt x) (hy : Byt y) (h0 : x ≠ 0) (h : mulI x y = 0) : y = 0 := by
  have h1 := congrArg (mulI (invI x)) h
  rw [← mulI_assoc (byt_inv hx) hx hy, mulI_comm (byt_inv hx) hx, mulI_inv hx h0, mulI_zero (byt_inv hx), mulI_comm ⟨by omega, by omega⟩ hy, mulI_one hy] at h1
  exact h1
theorem row_at_ext {A B : List (List Int)} {n i : Nat} (hA : GoodR n A) (hB : GoodR n B) (hi : i < A.length) (hj : i < B.length) (h : ∀ k, k < n → at_ (row A i) k = at_ (row B i) k) : row A i = row B i := by
  have h1 := (Tw.good_row hA hi).1
  have h2 := (Tw.good_row hB hj).1
  exact ext_at (by rw [h1, h2]) (fun k hk => h k (by rw [← h1]; exact hk))
/-- rows that are alike but for one -/
theorem set_of {A B : List (List Int)} {a : Nat} (hl : A.length = B.length) (h : ∀ j, j < A.length → j ≠ a → row A j = row B j) : B = A.set a (row B a) := by
  refine row_ext (by rw [List.length_set, hl]) (fun j hj => ?_)
  by_cases e : j = a
  · subst e
    rw [Tw.row_set_self (by omega)]
  · rw [Tw.row_set_ne (Ne.symm e), h j (by omega) e]
theorem set_of2 {A B : List (List Int)} {a b : Nat} (hab : a ≠ b) (hl : A.length = B.length) (h : ∀ j, j < A.length → j ≠ a → j ≠ b → row A j = row B j) : B = (A.set a (row B a)).set b (row B b) := by
  refine row_ext (by rw [List.length_set, List.length_set, hl]) (fun j hj => ?_)
  by_cases e : j = b
  · subst e
    rw [Tw.row_set_self (by rw [List.length_set]; omega)]
  · rw [Tw.row_set_ne (Ne.symm e)]
    by_cases e2 : j = a
    · subst e2
      rw [Tw.row_set_self (by omega)]
    · rw [Tw.row_set_ne (Ne.symm e2), h j (by omega) e2 e]
theorem uniq {A B : List (List Int)} {n d a b : Nat} (hA : Code A n d) (hB : Code B n d) (h16 : d + 2 ≤ 16) (hab : a < b) (hb : b < d + 2) (h : ∀ j, j < d + 2 → j ≠ a → j ≠ b → row A j = row B j) : A = B := by
  have lA := hA.len
  have lB := hB.len
  have gT := good_take (m := d) hA.good
  have gU := good_take (m := d) hB.good
  have bT : ∀ x ∈ A.take d, Bytes x := fun x hx => (gT x hx).2
  have lT : (A.take d).length = d := by rw [List.length_take]; omega
  have lU : (B.take d).length = d := by rw [List.length_take]; omega
  have byA : ∀ i k, i < d + 2 → Byt (at_ (row A i) k) := fun i k hi => byt_at (Tw.good_row hA.good (by omega)).2 k
  have byB : ∀ i k, i < d + 2 → Byt (at_ (row B i) k) := fun i k hi => byt_at (Tw.good_row hB.good (by omega)).2 k
  have rT : ∀ j, j < d → row (A.take d) j = row A j := fun j hj => row_take hj
  have rU : ∀ j, j < d → row (B.take d) j = row B j := fun j hj => row_take hj
  have pA : ∀ k, k < n → pS (A.take d) k = at_ (row A d) k := fun k hk => by rw [← hA.p, sumP_at _ hk]
  have qA : ∀ k, k < n → qS 0 (A.take d) k = at_ (row A (d + 1)) k := fun k hk => by rw [← hA.q, sumQ_at _ hk]
  have pB : ∀ k, k < n → pS (B.take d) k = at_ (row B d) k := fun k hk => by rw [← hB.p, sumP_at _ hk]
  have qB : ∀ k, k < n → qS 0 (B.take d) k = at_ (row B (d + 1)) k := fun k hk => by rw [← hB.q, sumQ_at _ hk]
  have ex : ∀ i, expI i ≠ 0 := fun i h => pw_ne_zero i (by unfold expI at h; omega)
  -- the data are the same
  have hdata : ∀ j, j < d → row A j = row B j := by
    by_cases had : d ≤ a
    · exact fun j hj => h j (by omega) (by omega) (by omega)
    by_cases hbd : b < d
    · -- both are data
      have hS : B.take d = ((A.take d).set a (row B a)).set b (row B b) := by
        have := set_of2 (A := A.take d) (B := B.take d) (a := a) (b := b) (by omega) (by rw [lT, lU]) (fun j hj h1 h2 => by rw [lT] at hj; rw [rT j hj, rU j hj]; exact h j (by omega) h1 h2)
        rwa [rU a (by omega), rU b hbd] at this
      have bS : ∀ x ∈ (A.take d).set a (row B a), Bytes x := by
        intro x hx
        rcases List.mem_or_eq_of_mem_set hx with hx | rfl
        · exact bT x hx
        · exact (Tw.good_row hB.good (by omega)).2
      have key : ∀ k, k < n → at_ (row A a) k = at_ (row B a) k ∧ at_ (row A b) k = at_ (row B b) k := by
        intro k hk
        have e1 := pB k hk
        have e2 := qB k hk
        have r2 : row ((A.take d).set a (row B a)) b = row A b := by rw [Tw.row_set_ne (by omega), rT b hbd]
        rw [hS, pS_set _ b _ k (by rw [List.length_set, lT]; exact hbd), r2, pS_set _ a _ k (by rw [lT]; omega), rT a (by omega), pA k hk, ← h d (by omega) (by omega) (by omega)] at e1
        rw [hS, qS_set _ 0 b _ k (by rw [List.length_set, lT]; exact hbd) bS (Tw.good_row hB.good (by omega)).2, r2, qS_set _ 0 a _ k (by rw [lT]; omega) bT (Tw.good_row hB.good (by omega)).2, rT a (by omega), qA k hk, ← h (d + 1) (by omega) (by omega) (by omega), Nat.zero_add, Nat.zero_add] at e2
        have bd := byA d k (by omega)
        have be := byA (d + 1) k (by omega)
        have u1 := byt_xor (byA a k (by omega)) (byB a k (by omega))
        have u2 := byt_xor (byA b k (by omega)) (byB b k (by omega))
        generalize hu : xorI (at_ (row A a) k) (at_ (row B a) k) = u at e1 e2 u1
        generalize hv : xorI (at_ (row A b) k) (at_ (row B b) k) = v at e1 e2 u2
        have f1 : xorI u v = 0 := by
          have := congrArg (xorI (at_ (row A d) k)) e1
          rwa [xorI_self, xorI_assoc, xorI_self_left _ (byt_xor u1 u2)] at this
        have f2 : xorI (mulI (expI a) u) (mulI (expI b) v) = 0 := by
          have := congrArg (xorI (at_ (row A (d + 1)) k)) e2
          rwa [xorI_self, xorI_assoc, xorI_self_left _ (byt_xor (byt_mul u1) (byt_mul u2))] at this
        have f3 := xorI_eq u1 u2 f1
        rw [← f3] at f2
        have f4 : mulI (xorI (expI a) (expI b)) u = 0 := by
          rw [mulI_comm (byt_xor (byt_exp a) (byt_exp b)) u1, mulI_xor (byt_exp a) (byt_exp b), mulI_comm u1 (byt_exp a), mulI_comm u1 (byt_exp b)]
          exact f2
        have f5 := mulI_eq_zero (byt_xor (byt_exp a) (byt_exp b)) u1 (Tw.xor_ne (by omega) (by omega) (by omega)) f4
        rw [← f3, f5] at hv
        rw [f5] at hu
        exact ⟨xorI_eq (byA a k (by omega)) (byB a k (by omega)) hu, xorI_eq (byA b k (by omega)) (byB b k (by omega)) hv⟩
      intro j hj
      by_cases ja : j = a
      · subst ja
        exact row_at_ext hA.good hB.good (by omega) (by omega) (fun k hk => (key k hk).1)
      · by_cases jb : j = b
        · subst jb
          exact row_at_ext hA.good hB.good (by omega) (by omega) (fun k hk => (key k hk).2)
        · exact h j (by omega) ja jb
    · -- one is data
      have hS : B.take d = (A.take d).set a (row B a) := by
        have := set_of (A := A.take d) (B := B.take d) (a := a) (by rw [lT, lU]) (fun j hj h1 => by rw [lT] at hj; rw [rT j hj, rU j hj]; exact h j (by omega) h1 (by omega))
        rwa [rU a (by omega)] at this
      have key : ∀ k, k < n → at_ (row A a) k = at_ (row B a) k := by
        intro k hk
        have u1 := byt_xor (byA a k (by omega)) (byB a k (by omega))
        by_cases hbe : b = d
        · have e2 := qB k hk
          rw [hS, qS_set _ 0 a _ k (by rw [lT]; omega) bT (Tw.good_row hB.good (by omega)).2, rT a (by omega), qA k hk, ← h (d + 1) (by omega) (by omega) (by omega), Nat.zero_add] at e2
          have f2 : mulI (expI a) (xorI (at_ (row A a) k) (at_ (row B a) k)) = 0 := by
            have := congrArg (xorI (at_ (row A (d + 1)) k)) e2
            rwa [xorI_self, xorI_self_left _ (byt_mul u1)] at this
          exact xorI_eq (byA a k (by omega)) (byB a k (by omega)) (mulI_eq_zero (byt_exp a) u1 (ex a) f2)
        · have e1 := pB k hk
          rw [hS, pS_set _ a _ k (by rw [lT]; omega), rT a (by omega), pA k hk, ← h d (by omega) (by omega) (by omega)] at e1
          have f1 : xorI (at_ (row A a) k) (at_ (row B a) k) = 0 := by
            have := congrArg (xorI (at_ (row A d) k)) e1
            rwa [xorI_self, xorI_self_left _ u1] at this
          exact xorI_eq (byA a k (by omega)) (byB a k (by omega)) f1
      intro j hj
      by_cases ja : j = a
      · subst ja
        exact row_at_ext hA.good hB.good (by omega) (by omega) key
      · exact h j (by omega) ja (by omega)
  have htk : A.take d = B.take d := row_ext (by rw [lT, lU]) (fun j hj => by rw [lT] at hj; rw [rT j hj, rU j hj]; exact hdata j hj)
  refine row_ext (by rw [lA, lB]) (fun j hj => ?_)
  by_cases h1 : j < d
  · exact hdata j h1
  · by_cases h2 : j = d
    · subst h2; rw [← hA.p, ← hB.p, htk]
    · obtain rfl : j = d + 1 := by omega
      rw [← hA.q, ← hB.q, htk]
end Go.Proofs.Ytdbnladpogpiiaa.Cd
namespace Go.Proofs.Ytdbnladpogpiiaa.Pc
open Go.RowKit Go.Proofs.YtdbnladpogpiiaaW.PrintWords
open Go.Proofs.Ytdbnladpogpiiaa.PRq Go.Proofs.Ytdbnladpogpiiaa.Fld Go.Proofs.Ytdbnladpogpiiaa.Pl
set_option linter.unusedSimpArgs false
set_option linter.unusedVariables false
theorem within4_f (a n : Int) (hn : 1 ≤ n) (hn2 : n ≤ 4611686018427387904) : ramekinlaw4_within.f a n = some (a % n) := by
  have hk := tmod_within a n hn
  have h2 := Int.emod_nonneg a (b := n) (by omega)
  have h3 := Int.emod_lt_of_pos a (b := n) (by omega)
  unfold ramekinlaw4_within.f
  rw [if_neg (by omega)]
  by_cases h : Int.tmod a n < 0
  · rw [if_pos h] at hk ⊢
    rw [w64 (by omega) (by omega), hk]
  · rw [if_neg h] at hk ⊢
    rw [hk]
theorem places_l1 (x0 : List Int) (m lim : Int) (x7 : List Int) (x8 t : Int) (hl : x7.length ≤ 1000000) (R : List Int)
    (h : Ev (fun k => if x7.contains t = true then ramekinlaw4_Places.l0 k x0 m lim x7 (wrap64 (x8 + 1)) else ramekinlaw4_Places.l0 k x0 m lim (x7 ++ [t]) (wrap64 (x8 + 1))) R) :
    ∀ d i (b : Bool), x7.length - i = d → i ≤ x7.length → (b = (x7.take i).contains t) → Ev (fun k => ramekinlaw4_Places.l1 k x0 m lim x7 x8 t b (i : Int)) R
  | 0, i, b, hd, hi, hb => by
    obtain rfl : i = x7.length := by omega
    rw [List.take_length] at hb
    refine Ev.step (fun k => ?_) h
    rw [ramekinlaw4_Places.l1, if_neg (by omega), hb]
    by_cases hc : x7.contains t = true
    · rw [if_pos hc, if_pos hc]
    · rw [if_neg hc, if_neg hc, if_pos (by omega)]
  | d + 1, i, b, hd, hi, hb => by
    have hil : i < x7.length := by omega
    have hrd : rd x7 (i : Int) = x7[i] := by rw [rd_nat, at_lt hil]
    have htk : (x7.take (i + 1)).contains t = ((x7.take i).contains t || (t == x7[i])) := by
      rw [List.take_succ_eq_append_getElem hil, List.contains_append]
      rw [List.contains_cons, List.contains_nil, Bool.or_false]
    refine Ev.step (fun k => ?_) (places_l1 x0 m lim x7 x8 t hl R h d (i + 1) ((x7.take (i + 1)).contains t) (by omega) (by omega) rfl)
    rw [ramekinlaw4_Places.l1, if_pos (by omega), w64 (n := (i : Int) + 1) (by omega) (by omega)]
    by_cases hc : b = true
    · rw [if_pos hc, htk, ← hb, hc]
      rfl
    · rw [if_neg hc, if_pos (by omega), hrd, htk, ← hb, Bool.eq_false_iff.2 hc, Bool.false_or, Bool.beq_comm]
      rfl
/-- what Places answers -/
def Ok (lim m : Nat) (P : List Int) : Prop := P.length ≤ lim ∧ (∀ i ∈ P, 0 ≤ i ∧ i < (m : Int)) ∧ P.Nodup
theorem places_l0 (l3 : List Int) (m lim : Nat) (hm : 1 ≤ m) (hm2 : m ≤ 1000000) (hlim : lim ≤ 1000) (hl : l3.length ≤ 9223372036854775807) : ∀ d i (x7 : List Int), l3.length - i = d → i ≤ l3.length → Ok lim m x7 → ∃ P, Ev (fun k => ramekinlaw4_Places.l0 k l3 (m : Int) (lim : Int) x7 (i : Int)) P ∧ Ok lim m P
  | 0, i, x7, hd, hi, hok => by
    obtain rfl : i = l3.length := by omega
    refine ⟨x7, Ev.step (f := fun k => ramekinlaw4_Places.j1 k l3 (m : Int) (lim : Int) x7 (l3.length : Int) false) (fun k => ?_) (Ev.step (f := fun _ => some x7) (fun k => ?_) (Ev.now _)), hok⟩
    · rw [ramekinlaw4_Places.l0, if_neg (by omega)]
    · rw [ramekinlaw4_Places.j1, if_neg (by simp)]
  | d + 1, i, x7, hd, hi, hok => by
    have hil : i < l3.length := by omega
    by_cases hfull : x7.length < lim
    · obtain ⟨t, ht⟩ : ∃ t, t = rd l3 (i : Int) % (m : Int) := ⟨_, rfl⟩
      have t1 := Int.emod_nonneg (rd l3 (i : Int)) (b := (m : Int)) (by omega)
      have t2 := Int.emod_lt_of_pos (rd l3 (i : Int)) (b := (m : Int)) (by omega)
      rw [← ht] at t1 t2
      have e1 : wrap64 ((i : Int) + 1) = ((i + 1 : Nat) : Int) := by rw [w64 (by omega) (by omega)]; rfl
      have go : ∀ P, Ev (fun k => if x7.contains t = true then ramekinlaw4_Places.l0 k l3 (m : Int) (lim : Int) x7 ((i + 1 : Nat) : Int) else ramekinlaw4_Places.l0 k l3 (m : Int) (lim : Int) (x7 ++ [t]) ((i + 1 : Nat) : Int)) P → Ev (fun k => ramekinlaw4_Places.l0 k l3 (m : Int) (lim : Int) x7 (i : Int)) P := fun P hP => by
        refine Ev.step (f := fun k => ramekinlaw4_Places.j1 k l3 (m : Int) (lim : Int) x7 (i : Int) true) (fun k => ?_) (Ev.step (f := fun k => ramekinlaw4_Places.l1 k l3 (m : Int) (lim : Int) x7 (i : Int) t false ((0 : Nat) : Int)) (fun k => ?_) ?_)
        · rw [ramekinlaw4_Places.l0, if_pos (by omega), decide_eq_true (by omega)]
        · rw [ramekinlaw4_Places.j1, if_pos rfl, if_pos (by omega), if_pos (by omega), within4_f _ _ (by omega) (by omega), ← ht]
          rfl
        · exact places_l1 l3 (m : Int) (lim : Int) x7 (i : Int) t (by omega) P (by rw [e1]; exact hP) x7.length 0 false (by omega) (by omega) (by simp)
      by_cases hc : x7.contains t = true
      · obtain ⟨P, h1, h2⟩ := places_l0 l3 m lim hm hm2 hlim hl d (i + 1) x7 (by omega) (by omega) hok
        exact ⟨P, go P (Ev.congr (fun k => by rw [if_pos hc]) h1), h2⟩
      · have hok2 : Ok lim m (x7 ++ [t]) := by
          refine ⟨by simp; omega, fun j hj => ?_, ?_⟩
          · rcases List.mem_append.1 hj with hj | hj
            · exact hok.2.1 j hj
            · rw [List.mem_singleton.1 hj]; exact ⟨t1, t2⟩
          · rw [List.nodup_append]
            refine ⟨hok.2.2, by simp, ?_⟩
            rintro a ha b hb rfl
            rw [List.mem_singleton.1 hb] at ha
            exact hc (by simpa using ha)
        obtain ⟨P, h1, h2⟩ := places_l0 l3 m lim hm hm2 hlim hl d (i + 1) (x7 ++ [t]) (by omega) (by omega) hok2
        exact ⟨P, go P (Ev.congr (fun k => by rw [if_neg hc]) h1), h2⟩
    · refine ⟨x7, Ev.step (f := fun k => ramekinlaw4_Places.j1 k l3 (m : Int) (lim : Int) x7 (i : Int) false) (fun k => ?_) (Ev.step (f := fun _ => some x7) (fun k => ?_) (Ev.now _)), hok⟩
      · rw [ramekinlaw4_Places.l0, if_pos (by omega), decide_eq_false (by omega)]
      · rw [ramekinlaw4_Places.j1, if_neg (by simp)]
theorem places_ev (l3 : List Int) (m lim : Nat) (hm : 1 ≤ m) (hm2 : m ≤ 1000000) (hlim : lim ≤ 1000) (hl : l3.length ≤ 9223372036854775807) : ∃ P, Ev (fun k => ramekinlaw4_Places.f k l3 (m : Int) (lim : Int)) P ∧ Ok lim m P :=
  places_l0 l3 m lim hm hm2 hlim hl l3.length 0 [] (by omega) (by omega) ⟨by simp, by simp, by simp⟩
end Go.Proofs.Ytdbnladpogpiiaa.Pc
namespace Go.Proofs.Ytdbnladpogpiiaa.Rp
open Go.RowKit Go.Proofs.YtdbnladpogpiiaaW.PrintWords
open Go.Proofs.Ytdbnladpogpiiaa.Fld Go.Proofs.Ytdbnladpogpiiaa.Pl Go.Proofs.Ytdbnladpogpiiaa.Ot Go.Proofs.Ytdbnladpogpiiaa.Tw Go.Proofs.Ytdbnladpogpiiaa.Kp Go.Proofs.Ytdbnladpogpiiaa.Fw Go.Proofs.Ytdbnladpogpiiaa.Co Go.Proofs.Ytdbnladpogpiiaa.Cw Go.Proofs.Ytdbnladpogpiiaa.Cd
set_option linter.unusedSimpArgs false
set_option linter.unusedVariables false
theorem even_l0 (L : List (List Int)) (hm : L.length ≤ 1000000) (h0 : 0 < L.length) : ∀ d i : Nat, L.length - i = d → i ≤ L.length → Ev (fun k => PRq.ramekinref5_even.l0 k L (i : Int)) ((L.drop i).all fun r => r.length == (row L 0).length)
  | 0, i, hd, hi => by
    obtain rfl : i = L.length := by omega
    refine Ev.step (f := fun _ => some true) (fun k => ?_) ?_
    · rw [PRq.ramekinref5_even.l0, if_neg (by omega)]
    · rw [List.drop_length]; exact Ev.now _
  | d + 1, i, hd, hi => by
    have hil : i < L.length := by omega
    have hdr : L.drop i = L[i] :: L.drop (i + 1) := List.drop_eq_getElem_cons hil
    have hr0 : PRq.rd_L1 L 0 = row L 0 := by unfold PRq.rd_L1 row; simp
    by_cases h : (L[i].length : Int) = ((row L 0).length : Int)
    · refine Ev.step (f := fun k => PRq.ramekinref5_even.l0 k L ((i + 1 : Nat) : Int)) (fun k => ?_) ?_
      · rw [PRq.ramekinref5_even.l0, if_pos (by omega), if_pos (by omega), if_pos (by omega), rdL_nat, row_lt hil, hr0, if_pos h, w64 (by omega) (by omega)]; rfl
      · have := even_l0 L hm h0 d (i + 1) (by omega) (by omega)
        rw [hdr, List.all_cons, show (L[i].length == (row L 0).length) = true from by rw [beq_iff_eq]; omega, Bool.true_and]
        exact this
    · refine Ev.step (f := fun _ => some false) (fun k => ?_) ?_
      · rw [PRq.ramekinref5_even.l0, if_pos (by omega), if_pos (by omega), if_pos (by omega), rdL_nat, row_lt hil, hr0, if_neg h]
      · rw [hdr, List.all_cons, show (L[i].length == (row L 0).length) = false from by rw [beq_eq_false_iff_ne]; omega, Bool.false_and]
        exact Ev.now _
theorem even_ok (L : List (List Int)) (n a b : Nat) (hn : ∀ r ∈ L, r.length = n) (h1 : 1 ≤ a) (ha : a ≤ L.length) (hb : L.length ≤ b) (hm : L.length ≤ 1000000) : PRr.ramekinref5_even.f L (a : Int) (b : Int) = some true := by
  refine Lim.lim_ev (fun k => PRq.ramekinref5_even.mono _ _ _ k) ?_
  refine Ev.congr (f := fun k => PRq.ramekinref5_even.j0 k L false) (fun k => ?_) (Ev.step (f := fun k => PRq.ramekinref5_even.l0 k L ((1 : Nat) : Int)) (fun k => ?_) ?_)
  · rw [PRq.ramekinref5_even.f, if_neg (by omega), decide_eq_false (by omega)]
  · rw [PRq.ramekinref5_even.j0, if_neg (by simp)]; rfl
  · have := even_l0 L hm (by omega) (L.length - 1) 1 (by omega) (by omega)
    have e : ((L.drop 1).all fun r => r.length == (row L 0).length) = true := by
      rw [List.all_eq_true]
      intro r hr
      rw [beq_iff_eq, hn r (List.mem_of_mem_drop hr), row_lt (by omega), hn _ (List.getElem_mem _)]
    rw [e] at this
    exact this
theorem rmul {x y : Int} (hx : Byt x) (hy : Byt y) : PRr.ramekinref2_Mul.f x y = some (mulI x y) := Lim.lim_ev (fun k => PRq.ramekinref2_Mul.mono _ _ k) (refmul_ev hx hy)
theorem rexp (n : Nat) (hn : n < 255) : PRr.ramekinref2_Exp.f (n : Int) = some (expI n) := Lim.lim_ev (fun k => PRq.ramekinref2_Exp.mono _ k) (refexp_ev n hn)
theorem par_l1 (L : List (List Int)) (i : Nat) (r : List Int) (b : Int) (p q : List Int) (hi : i < L.length) (hr : row L i = r) (hp : p.length = r.length) (hq : q.length = r.length) (hlen : r.length ≤ 281474976710656) (hb : Byt b) (bp : Bytes p) (bq : Bytes q) (br : Bytes r) (R : List Int × List Int)
    (h : Ev (fun k => PRr.ramekinref5_Parity.l0 k L (Pl.part p r none r.length) (Pl.part q r (some b) r.length) ((i : Int) + 1)) R) (hi2 : i < 1000000) :
    ∀ d j : Nat, r.length - j = d → j ≤ r.length → Ev (fun k => PRr.ramekinref5_Parity.l1 k L (Pl.part p r none j) (Pl.part q r (some b) j) (i : Int) b (j : Int)) R
  | 0, j, hd, hj => by
    obtain rfl : j = r.length := by omega
    have hr2 : PRr.rd_L2 L (i : Int) = r := by rw [← hr]; unfold PRr.rd_L2 row; simp
    refine Ev.step (f := fun k => PRr.ramekinref5_Parity.l0 k L (Pl.part p r none r.length) (Pl.part q r (some b) r.length) ((i : Int) + 1)) (fun k => ?_) h
    rw [PRr.ramekinref5_Parity.l1, if_pos (by omega), if_pos (by omega), hr2, if_neg (by omega), w64 (by omega) (by omega)]
  | d + 1, j, hd, hj => by
    have hjr : j < r.length := by omega
    have hr2 : PRr.rd_L2 L (i : Int) = r := by rw [← hr]; unfold PRr.rd_L2 row; simp
    refine Ev.step (f := fun k => PRr.ramekinref5_Parity.l1 k L (Pl.part p r none (j + 1)) (Pl.part q r (some b) (j + 1)) (i : Int) b ((j + 1 : Nat) : Int)) (fun k => ?_) (par_l1 L i r b p q hi hr hp hq hlen hb bp bq br R h hi2 d (j + 1) (by omega) (by omega))
    have e1 : at_ (Pl.part p r none j) j = at_ p j := by rw [part_at _ _ _ _ _ (by omega), if_neg (by omega)]
    have e2 : at_ (Pl.part q r (some b) j) j = at_ q j := by rw [part_at _ _ _ _ _ (by omega), if_neg (by omega)]
    have e3 := part_set p r none j (by omega)
    have e4 := part_set q r (some b) j (by omega)
    have t3 : term r none j = at_ r j := rfl
    have t4 : term r (some b) j = mulI b (at_ r j) := rfl
    rw [t3] at e3
    rw [t4] at e4
    rw [PRr.ramekinref5_Parity.l1, if_pos (by omega), if_pos (by omega), hr2, if_pos (by omega), if_pos (by omega), if_pos (by rw [part_len]; omega), if_pos (by rw [part_len]; omega), w64 (by omega) (by omega)]
    simp only [rd_nat, e1, e2, Int.toNat_natCast]
    rw [rmul hb (byt_at br j)]
    simp only [Option.bind_some]
    rw [xor_u8 (byt_at bp j) (byt_at br j), xor_u8 (byt_at bq j) (byt_mul (byt_at br j)), e3, e4]
    rfl
theorem par_l0 (L : List (List Int)) (n : Nat) (hn : ∀ r ∈ L, r.length = n) (hL : ∀ r ∈ L, Bytes r) (h254 : L.length ≤ 254) (hn2 : n ≤ 281474976710656) :
    ∀ d i, L.length - i = d → i ≤ L.length → Ev (fun k => PRr.ramekinref5_Parity.l0 k L (sumP (L.take i) n) (sumQ (L.take i) n) (i : Int)) (sumP L n, sumQ L n)
  | 0, i, hd, hi => by
    obtain rfl : i = L.length := by omega
    refine Ev.step (f := fun _ => some (sumP L n, sumQ L n)) (fun k => ?_) (Ev.now _)
    rw [PRr.ramekinref5_Parity.l0, if_neg (by omega), List.take_length]
  | d + 1, i, hd, hi => by
    have hiL : i < L.length := by omega
    have hm : L[i] ∈ L := List.getElem_mem hiL
    have htk : ∀ r ∈ L.take i, Bytes r := fun r hr => hL r (List.mem_of_mem_take hr)
    refine Ev.step (f := fun k => PRr.ramekinref5_Parity.l1 k L (sumP (L.take i) n) (sumQ (L.take i) n) (i : Int) (expI i) 0) (fun k => ?_) ?_
    · rw [PRr.ramekinref5_Parity.l0, if_pos (by omega), rexp i (by omega)]
      rfl
    · have h1 := par_l1 L i L[i] (expI i) (sumP (L.take i) n) (sumQ (L.take i) n) hiL (row_lt hiL) (by rw [sumP_len, hn _ hm]) (by rw [sumQ_len, hn _ hm]) (by rw [hn _ hm]; exact hn2) (byt_exp i) (bytes_sumP _ _ htk) (bytes_sumQ _ _ htk) (hL _ hm) (sumP L n, sumQ L n) ?_ (by omega) L[i].length 0 (by omega) (by omega)
      · simpa [part_zero] using h1
      · have := par_l0 L n hn hL h254 hn2 d (i + 1) (by omega) (by omega)
        have e1 : Pl.part (sumP (L.take i) n) L[i] none L[i].length = sumP (L.take (i + 1)) n := by
          refine ext_at (by rw [part_len, sumP_len, sumP_len]) (fun k hk => ?_)
          rw [part_len, sumP_len] at hk
          rw [part_at _ _ _ _ _ (by rw [sumP_len]; exact hk), if_pos (by rw [hn _ hm]; exact hk), sumP_at _ hk, sumP_at _ hk, List.take_succ_eq_append_getElem hiL, pS_snoc _ _ _ htk (hL _ hm)]
          rfl
        have e2 : Pl.part (sumQ (L.take i) n) L[i] (some (expI i)) L[i].length = sumQ (L.take (i + 1)) n := by
          refine ext_at (by rw [part_len, sumQ_len, sumQ_len]) (fun k hk => ?_)
          rw [part_len, sumQ_len] at hk
          rw [part_at _ _ _ _ _ (by rw [sumQ_len]; exact hk), if_pos (by rw [hn _ hm]; exact hk), sumQ_at _ hk, sumQ_at _ hk, List.take_succ_eq_append_getElem hiL, qS_snoc _ _ _ _ htk (hL _ hm)]
          have : (L.take i).length = i := by simp; omega
          rw [this, Nat.zero_add]
          rfl
        rw [e1, e2]
        simpa using this
theorem refpar_ev (L : List (List Int)) (n : Nat) (hn : ∀ r ∈ L, r.length = n) (hL : ∀ r ∈ L, Bytes r) (h2 : 2 ≤ L.length) (h14 : L.length ≤ 14) (hn2 : n ≤ 281474976710656) : Ev (fun k => PRr.ramekinref5_Parity.f k L) (sumP L n, sumQ L n) := by
  have hr0 : PRr.rd_L2 L 0 = row L 0 := by unfold PRr.rd_L2 row; simp
  have hl0 : (row L 0).length = n := by rw [row_lt (by omega)]; exact hn _ (List.getElem_mem _)
  refine Ev.congr (f := fun k => PRr.ramekinref5_Parity.l0 k L (sumP (L.take 0) n) (sumQ (L.take 0) n) ((0 : Nat) : Int)) (fun k => ?_) (par_l0 L n hn hL (by omega) hn2 L.length 0 (by omega) (by omega))
  have he := even_ok L n 2 14 hn (by omega) (by omega) (by omega) (by omega)
  rw [PRr.ramekinref5_Parity.f, show (2 : Int) = ((2 : Nat) : Int) from rfl, show (14 : Int) = ((14 : Nat) : Int) from rfl, he]
  simp only [Option.bind_some, ↓reduceIte]
  rw [if_pos (by omega), hr0, hl0, if_pos (by omega), if_pos (by simpa using hn2)]
  simp only [Int.toNat_natCast, List.take_zero]
  rw [← rep_zero, ← rep_zero']
  rfl
/-- rows made again are bytes, of one length -/
theorem good_fix1 {L : List (List Int)} {lost : List Int} {s : Nat} (hL : Tw.GoodR s L) (hm : mayB L lost = true) (hk : lenR (kept L lost) = s) : Tw.GoodR s (fixR L lost) := by
  obtain ⟨m1, m2, m3, m4, m5, m6⟩ := may_facts hm
  have hkl := kept_len m6
  rw [hk] at hkl
  have hg : Tw.GoodR s (ownR L lost s) := own_good (fun r hr => (hL r hr).2) hkl
  have hol := own_len L lost s
  have b1 : Byt 1 := ⟨by omega, by omega⟩
  obtain ⟨d, hd⟩ : ∃ d, L.length = d + 2 := ⟨L.length - 2, by omega⟩
  have e : L.length - 2 = d := by omega
  unfold fixR
  simp only
  rw [hk, e]
  generalize ownR L lost s = R at hg hol
  have gT := good_take (m := d) hg
  have bT : ∀ x ∈ R.take d, Bytes x := fun x hx => (gT x hx).2
  have hp := Tw.good_add (n := s) (a := sumP (R.take d) s) ⟨sumP_len _ _, bytes_sumP _ _ bT⟩ (Tw.good_row hg (i := d) (by omega)).2 b1
  have hq := Tw.good_add (n := s) (a := sumQ (R.take d) s) ⟨sumQ_len _ _, bytes_sumQ _ _ bT⟩ (Tw.good_row hg (i := d + 1) (by omega)).2 b1
  generalize addR (sumP (R.take d) s) (row R d) 1 = p at hp
  generalize addR (sumQ (R.take d) s) (row R (d + 1)) 1 = q at hq
  have par : ∀ (gone : List Nat) (X : List (List Int)), Tw.GoodR s X → Tw.GoodR s (parR X gone d s) := by
    intro gone
    induction gone with
    | nil => intro X hX; exact hX
    | cons i t ih =>
      intro X hX
      show Tw.GoodR s (parR (if i ≥ d then X.set i _ else X) t d s)
      apply ih
      have gX := good_take (m := d) hX
      split
      · refine Tw.good_set hX ?_
        split
        · exact ⟨sumP_len _ _, bytes_sumP _ _ (fun x hx => (gX x hx).2)⟩
        · exact ⟨sumQ_len _ _, bytes_sumQ _ _ (fun x hx => (gX x hx).2)⟩
      · exact hX
  apply par
  rcases gone_of m3 m4 m5 with h | ⟨a, h, ha⟩ | ⟨a, b, h, hab, hb⟩
  · rw [h]; exact hg
  · rw [h]
    have hra := Tw.good_row hg (i := a) (by omega)
    simp only [List.map_cons, List.map_nil, Int.toNat_natCast, dataR]
    split
    · exact hg
    · exact Tw.good_set hg (Tw.good_add hra hp.2 b1)
  · rw [h]
    have hra := Tw.good_row hg (i := a) (by omega)
    simp only [List.map_cons, List.map_nil, Int.toNat_natCast, dataR]
    split
    · exact hg
    · split
      · exact good_two hg (by omega) (by omega) hp hq
      · split
        · exact Tw.good_set hg (Tw.good_add hra hq.2 (byt_inv (byt_exp a)))
        · exact Tw.good_set hg (Tw.good_add hra hp.2 b1)
end Go.Proofs.Ytdbnladpogpiiaa.Rp
namespace Go.Proofs.Ytdbnladpogpiiaa.Rf
open Go.RowKit Go.Proofs.YtdbnladpogpiiaaW.PrintWords
open Go.Proofs.Ytdbnladpogpiiaa.Fld Go.Proofs.Ytdbnladpogpiiaa.Pl Go.Proofs.Ytdbnladpogpiiaa.Ot Go.Proofs.Ytdbnladpogpiiaa.Kp Go.Proofs.Ytdbnladpogpiiaa.Fw Go.Proofs.Ytdbnladpogpiiaa.Co Go.Proofs.Ytdbnladpogpiiaa.Cw Go.Proofs.Ytdbnladpogpiiaa.Cd Go.Proofs.Ytdbnladpogpiiaa.Pc
set_option linter.unusedSimpArgs false
set_option linter.unusedVariables false
theorem spare (P : List Int) (h : P.length ≤ 2) : ∃ i : Nat, i < 3 ∧ P.contains (i : Int) = false := by
  match P, h with
  | [], _ => exact ⟨0, by omega, rfl⟩
  | [a], _ =>
    by_cases h0 : a = 0
    · exact ⟨1, by omega, by simp; omega⟩
    · exact ⟨0, by omega, by simp; omega⟩
  | [a, b], _ =>
    by_cases h0 : a = 0 ∨ b = 0
    · by_cases h1 : a = 1 ∨ b = 1
      · exact ⟨2, by omega, by simp; omega⟩
      · exact ⟨1, by omega, by simp; omega⟩
    · exact ⟨0, by omega, by simp; omega⟩
end Go.Proofs.Ytdbnladpogpiiaa.Rf
namespace Go.Proofs.Ytdbnladpogpiiaa.Sm
open Go.RowKit Go.Proofs.YtdbnladpogpiiaaW.PrintWords Go.Proofs.YtdbnladpogpiiaaW.PrintLast Go.Proofs.YtdbnladpogpiiaaW.PrintMore Go.Proofs.Ytdbnladpogpiiaa.PRq Go.Proofs.Ytdbnladpogpiiaa.Fld
set_option linter.unusedSimpArgs false
set_option linter.unusedVariables false
def BytL (l : List (List Int)) : Prop := ∀ r ∈ l, ∀ x ∈ r, 0 ≤ x ∧ x < 256
theorem row_in {L : List (List Int)} {j : Nat} (h : j < L.length) : row L j = L[j] := by unfold row; simp [h]
theorem strOfNums_inj {a b : List Int} (ha : ∀ x ∈ a, 0 ≤ x ∧ x < 256) (hb : ∀ x ∈ b, 0 ≤ x ∧ x < 256) (h : (strOfNums a).toList = (strOfNums b).toList) : a = b := by
  rw [Lib.strOfNums_toList, Lib.strOfNums_toList] at h
  have hl : a.length = b.length := by have := congrArg List.length h; simpa [Lib.bytesOf] using this
  apply List.ext_getElem hl
  intro k h1 h2
  have h3 := congrArg (fun l => l[k]?) h
  simp only [Lib.bytesOf, List.getElem?_map, List.getElem?_eq_getElem h1, List.getElem?_eq_getElem h2, Option.map_some, Option.some.injEq] at h3
  have h4 := congrArg UInt8.toNat h3
  simp only [UInt8.toNat_ofNat'] at h4
  have ha1 := ha _ (List.getElem_mem h1)
  have hb1 := hb _ (List.getElem_mem h2)
  omega
set_option maxHeartbeats 1000000 in
theorem same_calls (A0 : Option Addr) (c0 : Nat) (l0 : List (List Int)) (A1 : Option Addr) (c1 : Nat) (l1 : List (List Int)) (w : World) (hr0 : Kd.C (Kd.slice 5 (Kd.int .u8)) w A0 l0.length l0) (hr1 : Kd.C (Kd.slice 5 (Kd.int .u8)) w A1 l1.length l1)
    (b0 : BytL l0) (b1 : BytL l1) (n0 : l0.length ≤ 1000000) (n1 : l1.length ≤ 1000000) :
    Calls Try.prog 23 #[.slice A0 l0.length c0, .slice A1 l1.length c1] w fun e w' => e = .returned (.bool (decide (l0 = l1))) ∧ Drawn0 w w' := by
  by_cases hlen : l0.length = l1.length
  · have Hlen := Lib.hid hlen
    have HR0 := Lib.hid hr0
    have HR1 := Lib.hid hr1
    have HB0 := Lib.hid b0
    have HB1 := Lib.hid b1
    clear b0 b1 hr0 hr1
    have hbe : ((l0.length : Int) != (l1.length : Int)) = false := by rw [hlen]; simp
    clear hlen
    go_enter Try.func23, Try.ntmps23
    go_wp2
    go_loopw [5] (fun i wr => ∃ j : Nat, j ≤ l0.length ∧ i = .int .i64 j ∧ Hid (∀ k, k < j → row l0 k = row l1 k) ∧ ∃ m, wr = w.drewN m) (fun i _ => l0.length - (intOf i).toNat)
    case atStart => exact ⟨0, Nat.zero_le _, rfl, fun k hk => by omega, 0, rfl⟩
    case round =>
      obtain ⟨j, hj, rfl, hrow, m, rfl⟩ := hrel
      by_cases hjl : j < l0.length
      · obtain ⟨ad0, A0', c0', e0, hx0, hl0, hi0⟩ := at_L1 HR0.out (j : Int) (by omega) (by omega)
        obtain ⟨ad1, A1', c1', e1, hx1, hl1, hi1⟩ := at_L1 HR1.out (j : Int) (by omega) (by have := Hlen.out; omega)
        subst e0 e1
        have hj1 : (j : Int) < (l1.length : Int) := by have := Hlen.out; omega
        have r0 : rd_L1 l0 (j : Int) = row l0 j := by unfold rd_L1 row; simp
        have r1 : rd_L1 l1 (j : Int) = row l1 j := by unfold rd_L1 row; simp
        rw [r0] at hx0 hi0 hl0
        rw [r1] at hx1 hi1 hl1
        clear r0 r1
        have hcv0 := fun n => Kd.C_string (P := Try.prog) (A := A0') (c := c0') Try.underlying22 Try.underlying5 Try.underlying9 (Kd.C_drewN hi0 n)
        have hcv1 := fun n => Kd.C_string (P := Try.prog) (A := A1') (c := c1') Try.underlying22 Try.underlying5 Try.underlying9 (Kd.C_drewN hi1 n)
        simp only [Int.toNat_natCast] at hx0 hx1
        clear hi0 hi1 hl0 hl1
        by_cases heq : row l0 j = row l1 j
        · have ht : ((strOfNums (row l0 j)).toList == (strOfNums (row l1 j)).toList) = true := by rw [heq]; simp
          have Heq := Lib.hid heq
          clear heq
          go_wp2_with fail
          go_quiet (fail)
          go_wp2
          refine ⟨⟨j + 1, by omega, by simp, fun k hk => ?_, m + nq, by first | rfl | exact World.drewN_drewN _ _ _⟩, by simp [intOf]; omega⟩
          by_cases e : k = j
          · subst e; exact Heq.out
          · exact hrow.out k (by omega)
        · have ht : ((strOfNums (row l0 j)).toList == (strOfNums (row l1 j)).toList) = false := by
            rw [beq_eq_false_iff_ne]
            intro h
            apply heq
            refine strOfNums_inj ?_ ?_ h
            · rw [row_in hjl]; exact HB0.out _ (List.getElem_mem hjl)
            · have hj2 : j < l1.length := by omega
              rw [row_in hj2]; exact HB1.out _ (List.getElem_mem hj2)
          have hd : decide (l0 = l1) = false := by
            rw [decide_eq_false_iff_not]
            intro e
            exact heq (by rw [e])
          have Hd := Lib.hid hd
          clear heq hd
          go_wp2_with fail
          go_quiet (fail)
          go_wp2
          go_ret
          rw [Hd.out]
          exact ⟨rfl, ⟨⟨m + nq, by first | rfl | exact World.drewN_drewN _ _ _⟩⟩⟩
      · have hd : decide (l0 = l1) = true := by
          rw [decide_eq_true_iff]
          apply List.ext_getElem Hlen.out
          intro k h1 h2
          rw [← row_in h1, ← row_in h2]
          exact hrow.out k (by omega)
        have Hd := Lib.hid hd
        clear hd
        go_wp2
        go_ret
        rw [Hd.out]
        exact ⟨rfl, ⟨⟨m, rfl⟩⟩⟩
  · have hbe : ((l0.length : Int) != (l1.length : Int)) = true := by rw [bne_iff_ne]; omega
    have hd : decide (l0 = l1) = false := by
      rw [decide_eq_false_iff_not]
      intro e
      exact hlen (by rw [e])
    have Hd := Lib.hid hd
    clear hd hlen b0 b1 hr0 hr1
    go_enter Try.func23, Try.ntmps23
    go_wp2
    go_ret
    rw [Hd.out]
    exact ⟨rfl, Drawn0.refl _⟩
end Go.Proofs.Ytdbnladpogpiiaa.Sm
namespace Go.Proofs.Ytdbnladpogpiiaa.Sh
open Go.RowKit Go.Proofs.YtdbnladpogpiiaaW.PrintWords Go.Proofs.YtdbnladpogpiiaaW.PrintLast
open Go.Proofs.Ytdbnladpogpiiaa.Fld Go.Proofs.Ytdbnladpogpiiaa.Kp
set_option linter.unusedSimpArgs false
set_option linter.unusedVariables false
abbrev rowsK : Kd (List Int) := Kd.slice 5 (Kd.int .u8)
abbrev NR (w : World) (base g n cap : Nat) (xs : List (List Int)) : Prop := Kd.N rowsK 22 w base (fun _ => True) (.slice (some ⟨g, 0, none⟩) n cap) xs
theorem frozen {w : World} {base g n cap : Nat} {xs : List (List Int)} (h : NR w base g n cap xs) (k : Nat) : w.frozen? ⟨g, k, none⟩ = false := by
  obtain ⟨_, rows, _, ⟨_, inner, hown, _⟩, _⟩ := h
  rcases hown.2 with ⟨h', _⟩ | ⟨g', cap', cur, h', _, hh, _⟩
  · cases h'
  · cases h'
    simp [World.frozen?, hh]
theorem cell {w : World} {base g n cap : Nat} {xs : List (List Int)} (h : NR w base g n cap xs) (k : Nat) (hk : k < xs.length) : w.cell? ⟨g, k, none⟩ = some (hdr w (some ⟨g, 0, none⟩) xs k) := by
  obtain ⟨ad2, e2, hc2, _, _⟩ := hdr_at (L := xs) (A := some ⟨g, 0, none⟩) (w := w) (Kd.N_reads' h).2.2 k hk
  cases e2
  rw [show (⟨g, 0, none⟩ : Addr).add k = ⟨g, k, none⟩ from by simp [Addr.add]; omega] at hc2
  exact hc2
theorem put {w : World} {base g n cap b k : Nat} {xs : List (List Int)} {x' : List Int} {u : Value} (h : NR w base g n cap xs) (hk : k < n) (hM : Kd.FK rowsK w (fun i => i < b) x' [u]) (hb : b ≤ g) :
    NR (w.setCell ⟨g, k, none⟩ u) base g n cap (xs.set k x') ∧ w.grownBy (w.setCell ⟨g, k, none⟩ u) (some g) := by
  have hn := (Kd.N_reads' h).1
  have hc := cell h k (by omega)
  obtain ⟨hown, rows, hl, hR, hf⟩ := h
  obtain ⟨hrow, hg⟩ := Kd.R_seg (d := Kd.raw 1) (ok := fun _ => True) (okp := fun _ => False) (x' := [u]) (Kd.raw_any hR) (k : Int) (by omega) (by omega) (c := [hdr w (some ⟨g, 0, none⟩) xs k]) (seg := [u]) (j := 0) rfl (fun j v hj => by
    match j, hj with
    | 0, hj =>
      simp only [List.getElem?_cons_zero, Option.some.injEq] at hj
      subst hj
      rw [show (Kd.raw 1).sz = 1 from rfl, Nat.mul_one, Nat.add_zero, Int.toNat_natCast]
      exact hc) (by show 0 + 1 ≤ 1; omega) (Kd.FK_raw hM) (fun _ hk => hk.elim)
  have e : w.setCells g (Int.toNat (k : Int) * (Kd.raw 1).sz + 0) [u] = w.setCell ⟨g, k, none⟩ u := by
    rw [show (Kd.raw 1).sz = 1 from rfl, Nat.mul_one, Nat.add_zero, Int.toNat_natCast]
    rfl
  rw [e] at hrow hg
  have h2 := Kd.N_written (d := rowsK) hown hl hf hrow hg hM (fun i hi => ⟨trivial, by omega⟩)
  rw [Int.toNat_natCast] at h2
  exact ⟨h2, hg⟩
theorem addr (g k : Nat) : (⟨g, 0, none⟩ : Addr).add k = ⟨g, k, none⟩ := by simp [Addr.add]; omega
/-- one row put in another's place and changed there: what is read afterwards -/
theorem mod {w W : World} {base g n cap k c' : Nat} {A' : Option Addr} {xs : List (List Int)} {r : List Int} (h : NR w base g n cap xs) (hk : k < n) (hcells : ∀ i : Nat, i ≠ k → W.cell? ⟨g, i, none⟩ = w.cell? ⟨g, i, none⟩) (hck : W.cell? ⟨g, k, none⟩ = some (.slice A' r.length c')) (hc : r.length ≤ c') (hC : Kd.C (Kd.int .u8) W A' r.length r)
    (hheap : ∀ b : Nat, b < w.heap.size → b ≠ g → W.heap[b]? = w.heap[b]?) : Kd.C rowsK W (some ⟨g, 0, none⟩) n (xs.set k r) := by
  obtain ⟨hn, hnc, hmax⟩ := Kd.N_reads' h
  obtain ⟨_, rows, hl, hR, hf⟩ := h
  obtain ⟨_, _, hRC⟩ := Kd.R_reads' hR
  refine ⟨by rw [List.length_set]; omega, by have := hmax.2.1; omega, fun _ => ⟨_, rfl, fun j p hj => ?_⟩⟩
  have hjl : j < xs.length := by have := (List.getElem?_eq_some_iff.1 hj).1; rwa [List.length_set] at this
  by_cases e : j = k
  · subst e
    rw [List.getElem?_set_self hjl] at hj
    cases hj
    refine ⟨[.slice A' r.length c'], rfl, ⟨A', c', rfl, hc, hC⟩, fun q u hu => ?_⟩
    match q, hu with
    | 0, hu =>
      simp only [List.getElem?_cons_zero, Option.some.injEq] at hu
      subst hu
      rw [addr, show j * (rowsK).sz + 0 = j from Nat.mul_one j]
      exact hck
  · rw [List.getElem?_set_ne (Ne.symm e)] at hj
    have hjr : j < rows.length := by omega
    obtain ⟨ad, e2, hcell⟩ := hRC.2.2 (by omega)
    cases e2
    obtain ⟨c, hcl, hK, hcc⟩ := hcell j rows[j] (List.getElem?_eq_getElem hjr)
    have hk1 := Kd.FK_now (Kd.FK_step (hf j p rows[j] hj (List.getElem?_eq_getElem hjr)) (fun b hb hlt => hheap b hlt (fun he => hb.2 (by rw [he]; rfl))))
    refine ⟨c, hcl, by rw [show c = rows[j] from hK.1]; exact hk1, fun q u hu => ?_⟩
    have h3 := hcc q u hu
    have hq : q = 0 := by
      have h4 := (List.getElem?_eq_some_iff.1 hu).1
      have h5 : c.length = 1 := hcl
      omega
    subst hq
    rw [addr, show j * (Kd.raw (Kd.sz rowsK)).sz + 0 = j from Nat.mul_one j] at h3
    rw [addr, show j * (rowsK).sz + 0 = j from Nat.mul_one j, hcells j e]
    exact h3
theorem bfrozen {w : World} {base R n c : Nat} {e : TypeId} {hs : List Value} (h : w.ownsRow base e 1 (.slice (some ⟨R, 0, none⟩) n c) n hs) (k : Nat) : w.frozen? ⟨R, k, none⟩ = false := by
  rcases h.2 with ⟨h', _⟩ | ⟨g', cap', cur, h', _, hh, _⟩
  · cases h'
  · cases h'
    simp [World.frozen?, hh]
end Go.Proofs.Ytdbnladpogpiiaa.Sh
namespace Go.Proofs.Ytdbnladpogpiiaa.Pe
open Go.RowKit Go.Proofs.YtdbnladpogpiiaaW.PrintWords
open Go.Proofs.Ytdbnladpogpiiaa.Fld Go.Proofs.Ytdbnladpogpiiaa.Pl Go.Proofs.Ytdbnladpogpiiaa.Ot Go.Proofs.Ytdbnladpogpiiaa.Kp Go.Proofs.Ytdbnladpogpiiaa.Fw Go.Proofs.Ytdbnladpogpiiaa.Co Go.Proofs.Ytdbnladpogpiiaa.Cw Go.Proofs.Ytdbnladpogpiiaa.Cd Go.Proofs.Ytdbnladpogpiiaa.Rf
set_option linter.unusedSimpArgs false
set_option linter.unusedVariables false
def fewB (L : List (List Int)) : Bool := L.all (fun r => decide (r.length ≤ 60)) && decide (L.length ≤ 20)
theorem few_l0 (L : List (List Int)) (hm : L.length ≤ 9223372036854775807) : ∀ d i : Nat, L.length - i = d → i ≤ L.length → Ev (fun k => PRq.ramekinlaw5_Few.l0 k L (i : Int)) ((L.drop i).all (fun r => decide (r.length ≤ 60)) && decide (L.length ≤ 20))
  | 0, i, hd, hi => by
    obtain rfl : i = L.length := by omega
    refine Ev.step (f := fun _ => some (decide ((L.length : Int) ≤ 20))) (fun k => ?_) ?_
    · rw [PRq.ramekinlaw5_Few.l0, if_neg (by omega)]
    · rw [List.drop_length, List.all_nil, Bool.true_and]
      have e : decide ((L.length : Int) ≤ 20) = decide (L.length ≤ 20) := by
        by_cases h : L.length ≤ 20
        · rw [decide_eq_true h, decide_eq_true (by omega)]
        · rw [decide_eq_false h, decide_eq_false (by omega)]
      rw [e]
      exact Ev.now _
  | d + 1, i, hd, hi => by
    have hil : i < L.length := by omega
    have hdr : L.drop i = L[i] :: L.drop (i + 1) := List.drop_eq_getElem_cons hil
    by_cases h : L[i].length ≤ 60
    · refine Ev.step (f := fun k => PRq.ramekinlaw5_Few.l0 k L ((i + 1 : Nat) : Int)) (fun k => ?_) ?_
      · rw [PRq.ramekinlaw5_Few.l0, if_pos (by omega), if_pos (by omega), rdL_nat, row_lt hil, if_neg (by omega), w64 (by omega) (by omega)]; rfl
      · have := few_l0 L hm d (i + 1) (by omega) (by omega)
        rw [hdr, List.all_cons, decide_eq_true h, Bool.true_and]
        exact this
    · refine Ev.step (f := fun _ => some false) (fun k => ?_) ?_
      · rw [PRq.ramekinlaw5_Few.l0, if_pos (by omega), if_pos (by omega), rdL_nat, row_lt hil, if_pos (by omega)]
      · rw [hdr, List.all_cons, decide_eq_false h, Bool.false_and, Bool.false_and]
        exact Ev.now _
theorem few_ev (L : List (List Int)) (hm : L.length ≤ 9223372036854775807) : Ev (fun k => PRq.ramekinlaw5_Few.f k L) (fewB L) := few_l0 L hm L.length 0 (by omega) (by omega)
theorem few_of {L : List (List Int)} (h : fewB L = true) : L.length ≤ 20 ∧ ∀ r ∈ L, r.length ≤ 60 := by
  unfold fewB at h
  rw [Bool.and_eq_true, List.all_eq_true] at h
  exact ⟨of_decide_eq_true h.2, fun r hr => of_decide_eq_true (h.1 r hr)⟩
end Go.Proofs.Ytdbnladpogpiiaa.Pe
namespace Go.Proofs.Ytdbnladpogpiiaa.Oc
open Go.RowKit Go.Proofs.YtdbnladpogpiiaaW.PrintWords
open Go.Proofs.Ytdbnladpogpiiaa.Fld Go.Proofs.Ytdbnladpogpiiaa.Pl Go.Proofs.Ytdbnladpogpiiaa.Ot
set_option linter.unusedSimpArgs false
set_option linter.unusedVariables false
structure OutV (w : World) (base : Nat) (v : Value) (n : Nat) (hs : List Value) (rows : List (List Int)) : Prop where
  head : w.ownsRow base 22 1 v n hs
  len : rows.length = n
  row : ∀ (i : Nat) (h : Value) (r : List Int), hs[i]? = some h → rows[i]? = some r → BR w base h r
  apart : ∀ (i j : Nat) (h g : Value) (k : Nat), i ≠ j → hs[i]? = some h → hs[j]? = some g → h.ownBlock = some k → g.ownBlock ≠ some k
  max : n ≤ 1000000
abbrev OutC (w : World) (base G cap n : Nat) (hs : List Value) (rows : List (List Int)) : Prop := OutV w base (.slice (some ⟨G, 0, none⟩) n cap) n hs rows
namespace OutV
variable {w w1 : World} {base n i : Nat} {hs : List Value} {rows : List (List Int)} {v h : Value} {r : List Int}
theorem hlen (O : OutV w base v n hs rows) : hs.length = n := by have := O.head.1; omega
theorem none_ (w : World) (base : Nat) : OutV w base (.slice none 0 0) 0 [] [] := ⟨World.ownsRow_nil w base _ _, rfl, fun i h r h1 => by simp at h1, fun i j h g k _ h1 => by simp at h1, by omega⟩
theorem below (O : OutV w base v n hs rows) (hb : Below w.heap.size w w1) : OutV w1 base v n hs rows := ⟨pw_own_below O.head hb, O.len, fun i h r h1 h2 => (O.row i h r h1 h2).below hb, O.apart, O.max⟩
theorem rlt (O : OutV w base v n hs rows) (hi : hs[i]? = some h) : ∃ r, rows[i]? = some r ∧ BR w base h r := by
  have h1 := (List.getElem?_eq_some_iff.1 hi).1
  have h2 := O.hlen
  have h3 := O.len
  exact ⟨rows[i]'(by omega), List.getElem?_eq_getElem _, O.row i h _ hi (List.getElem?_eq_getElem _)⟩
theorem snoc {v1 : Value} (O : OutV w base v n hs rows) (hg : w.grownBy w1 v.ownBlock) (h1 : w1.ownsRow base 22 1 v1 (n + 1) (hs ++ [h])) (hr : BR w base h r) (hap : ∀ (j : Nat) (g : Value) (k : Nat), hs[j]? = some g → g.ownBlock = some k → h.ownBlock ≠ some k) (hm : n + 1 ≤ 1000000) : OutV w1 base v1 (n + 1) (hs ++ [h]) (rows ++ [r]) := by
  have hl := O.hlen
  have hrl := O.len
  have mv : ∀ {u : Value} {q : List Int}, BR w base u q → BR w1 base u q := fun {u q} hu => hu.move (fun k e => hg.block k (own_lt hu k e) (fun e2 => by
    rcases own_type_ne hu O.head (by decide) with h2 | h2
    · rw [h2] at e; cases e
    · exact h2 (by rw [e, e2])))
  refine ⟨h1, by rw [List.length_append]; simp; omega, fun j g q hj hq => ?_, fun a b x y k hab ha hb he => ?_, hm⟩
  · by_cases hjn : j < n
    · rw [List.getElem?_append_left (by omega)] at hj hq
      exact mv (O.row j g q hj hq)
    · have : j = n := by
        have := (List.getElem?_eq_some_iff.1 hj).1
        simp at this
        omega
      subst this
      rw [List.getElem?_append_right (by omega), hl, Nat.sub_self] at hj
      rw [List.getElem?_append_right (by omega), hrl, Nat.sub_self] at hq
      simp only [List.getElem?_cons_zero, Option.some.injEq] at hj hq
      subst hj hq
      exact mv hr
  · have ca : ∀ {c : Nat} {z : Value}, (hs ++ [h])[c]? = some z → (c < n ∧ hs[c]? = some z) ∨ (c = n ∧ z = h) := fun {c z} hc => by
      by_cases hcn : c < n
      · rw [List.getElem?_append_left (by omega)] at hc
        exact .inl ⟨hcn, hc⟩
      · have : c = n := by
          have := (List.getElem?_eq_some_iff.1 hc).1
          simp at this
          omega
        subst this
        rw [List.getElem?_append_right (by omega), hl, Nat.sub_self] at hc
        simp only [List.getElem?_cons_zero, Option.some.injEq] at hc
        exact .inr ⟨rfl, hc.symm⟩
    rcases ca ha with ⟨_, ha2⟩ | ⟨e1, e3⟩
    · rcases ca hb with ⟨_, hb2⟩ | ⟨_, e4⟩
      · exact O.apart a b x y k hab ha2 hb2 he
      · rw [e4]
        exact hap a x k ha2 he
    · rcases ca hb with ⟨_, hb2⟩ | ⟨e2, _⟩
      · intro h2
        rw [e3] at he
        exact hap b y k hb2 h2 he
      · omega
end OutV
theorem br_form {w : World} {base : Nat} {v : Value} {r : List Int} (h : BR w base v r) (hp : 0 < r.length) : ∃ g cap, v = .slice (some ⟨g, 0, none⟩) r.length cap ∧ base ≤ g := by
  obtain ⟨g, cap, e, hb, _⟩ := h.form hp
  exact ⟨g, cap, e, hb⟩
namespace OutC
variable {w w1 : World} {base G cap n i : Nat} {hs : List Value} {rows : List (List Int)} {h v : Value} {r : List Int}
theorem lt (O : OutC w base G cap n hs rows) : G < w.heap.size := own_lt O.head G rfl
theorem baseG (O : OutC w base G cap n hs rows) : base ≤ G := own_base O.head G rfl
theorem get (O : OutC w base G cap n hs rows) (hi : i < n) : ∃ h, hs[i]? = some h := ⟨hs[i]'(by have := O.hlen; omega), List.getElem?_eq_getElem _⟩
theorem cell (O : OutC w base G cap n hs rows) (hi : hs[i]? = some h) : w.cell? ⟨G, i, none⟩ = some h := by
  have hl := O.hlen
  have h1 := (List.getElem?_eq_some_iff.1 hi).1
  rw [O.head.cellAt i (by omega), hi]
theorem frozen (O : OutC w base G cap n hs rows) (i : Nat) : w.frozen? ⟨G, i, none⟩ = false := by
  rcases O.head.2 with ⟨h', _⟩ | ⟨g', cap', cur, h', _, hh, _⟩
  · cases h'
  · cases h'
    simp [World.frozen?, hh]
theorem R (O : OutC w base G cap n hs rows) : Kd.R (Kd.slice 5 (Kd.int .u8)) 22 w base (fun k => base ≤ k) (.slice (some ⟨G, 0, none⟩) n cap) rows := by
  have hl := O.hlen
  have hr := O.len
  refine ⟨fun k hk => own_base O.head k hk, hs, by rw [hr]; exact O.head, by rw [hl, hr]; show _ = _ * 1; omega, fun j p hj => ?_⟩
  have hjl : j < rows.length := (List.getElem?_eq_some_iff.1 hj).1
  have hj2 : j < hs.length := by omega
  refine ⟨hs[j], ?_, (O.row j hs[j] p (List.getElem?_eq_getElem hj2) hj).R (fun k hk => ⟨own_base (O.row j hs[j] p (List.getElem?_eq_getElem hj2) hj) k hk, fun he => ?_⟩)⟩
  · show (hs.drop (j * 1)).take 1 = [hs[j]]
    rw [Nat.mul_one, List.drop_eq_getElem_cons hj2]
    rfl
  · rcases own_type_ne (O.row j hs[j] p (List.getElem?_eq_getElem hj2) hj) O.head (by decide) with h1 | h1
    · rw [h1] at hk; cases hk
    · exact h1 (by rw [hk, he])
theorem N (O : OutC w base G cap n hs rows) : Kd.N (Kd.slice 5 (Kd.int .u8)) 22 w base (fun k => base ≤ k) (.slice (some ⟨G, 0, none⟩) n cap) rows := Kd.R_N O.R
theorem C (O : OutC w base G cap n hs rows) : Kd.C (Kd.slice 5 (Kd.int .u8)) w (some ⟨G, 0, none⟩) rows.length rows := (Kd.R_reads' O.R).2.2
theorem Ct (O : OutC w base G cap n hs rows) {m : Nat} (hm : m ≤ n) : Kd.C (Kd.slice 5 (Kd.int .u8)) w (some ⟨G, 0, none⟩) (rows.take m).length (rows.take m) := by
  obtain ⟨h1, h2, h3⟩ := O.C
  have hl := O.len
  have htl : (rows.take m).length = m := by rw [List.length_take]; omega
  refine ⟨rfl, by omega, fun hp => ?_⟩
  obtain ⟨ad, e, hc⟩ := h3 (by omega)
  refine ⟨ad, e, fun j p hj => hc j p ?_⟩
  have hjm : j < m := by have := (List.getElem?_eq_some_iff.1 hj).1; omega
  rwa [List.getElem?_take, if_pos hjm] at hj
theorem capn (O : OutC w base G cap n hs rows) : n ≤ cap := (Kd.R_reads' O.R).2.1
/-- A row has been written. -/
theorem put (O : OutC w base G cap n hs rows) (hi : hs[i]? = some h) (hk : Kept w w1 (fun k => some k = h.ownBlock)) (hr : BR w1 base h r) : OutC w1 base G cap n hs (rows.set i r) := by
  have hl := O.hlen
  have hrl := O.len
  have hil : i < rows.length := by have := (List.getElem?_eq_some_iff.1 hi).1; omega
  refine ⟨?_, by rw [List.length_set]; exact hrl, fun j g q hj hq => ?_, O.apart, O.max⟩
  · refine own_move O.head (fun k e => hk.2 k (own_lt O.head k e) (fun h2 => ?_))
    rcases own_type_ne (O.row i h rows[i] hi (List.getElem?_eq_getElem hil)) O.head (by decide) with h1 | h1
    · rw [h1] at h2; cases h2
    · exact h1 (by rw [← h2, e])
  · by_cases e : i = j
    · subst e
      rw [hi] at hj
      cases hj
      rw [List.getElem?_set_self hil] at hq
      cases hq
      exact hr
    · rw [List.getElem?_set_ne e] at hq
      exact (O.row j g q hj hq).kept hk (fun k hk1 => O.apart j i g h k (Ne.symm e) hj hi hk1)
/-- A row has been put in another's place. -/
theorem set (O : OutC w base G cap n hs rows) (hi : i < n) (hr : BR w base v r) (hv : ∀ (j : Nat) (g : Value) (k : Nat), hs[j]? = some g → g.ownBlock = some k → v.ownBlock ≠ some k) : OutC (w.setCell ⟨G, i, none⟩ v) base G cap n (hs.set i v) (rows.set i r) := by
  have hl := O.hlen
  have hrl := O.len
  have hst := O.head.stored i v
  have hG : ∀ {u : Value} {q : List Int}, BR w base u q → BR (w.setCell ⟨G, i, none⟩ v) base u q := fun {u q} hu => by
    refine hu.move (fun k e => Below.heap_setCell w ⟨G, i, none⟩ v k (fun e2 => ?_))
    rcases own_type_ne hu O.head (by decide) with h1 | h1
    · rw [h1] at e; cases e
    · exact h1 (by rw [e, e2]; rfl)
  refine ⟨hst.1, by rw [List.length_set]; exact hrl, fun j g q hj hq => ?_, fun a b h g k hab ha hb he => ?_, O.max⟩
  · by_cases e : i = j
    · subst e
      rw [List.getElem?_set_self (by omega)] at hj
      rw [List.getElem?_set_self (by omega)] at hq
      cases hj
      cases hq
      exact hG hr
    · rw [List.getElem?_set_ne e] at hj hq
      exact hG (O.row j g q hj hq)
  · by_cases e1 : i = a
    · subst e1
      rw [List.getElem?_set_self (by omega)] at ha
      rw [List.getElem?_set_ne hab] at hb
      cases ha
      intro h2
      exact hv b g k hb h2 he
    · rw [List.getElem?_set_ne e1] at ha
      by_cases e2 : i = b
      · subst e2
        rw [List.getElem?_set_self (by omega)] at hb
        cases hb
        exact hv a h k ha he
      · rw [List.getElem?_set_ne e2] at hb
        exact O.apart a b h g k hab ha hb he
theorem row_cell {s : Nat} (O : OutC w base G cap n hs rows) (hi : i < n) (hlen : (Fld.row rows i).length = s) (hs0 : 0 < s) : ∃ Ri ci, hs[i]? = some (.slice (some ⟨Ri, 0, none⟩) s ci) ∧ w.cell? ⟨G, i, none⟩ = some (.slice (some ⟨Ri, 0, none⟩) s ci) ∧ (∀ k, k < s → w.cell? ⟨Ri, k, none⟩ = some (.int .u8 (at_ (Fld.row rows i) k))) ∧ (∀ k, w.frozen? ⟨Ri, k, none⟩ = false) ∧ BR w base (.slice (some ⟨Ri, 0, none⟩) s ci) (Fld.row rows i) ∧ base ≤ Ri ∧ Ri ≠ G ∧ Ri < w.heap.size := by
  obtain ⟨h, hh⟩ := O.get hi
  have hrl := O.len
  have hil : i < rows.length := by omega
  have hr := O.row i h rows[i] hh (List.getElem?_eq_getElem hil)
  rw [← row_lt hil] at hr
  have hf := br_form hr (by omega)
  obtain ⟨Ri, ci, e, hb⟩ := hf
  rw [hlen] at e
  subst e
  have hR := hr.R (ok := fun _ => True) (fun _ _ => trivial)
  have hC := (Kd.R_reads' hR).2.2
  refine ⟨Ri, ci, hh, O.cell hh, fun k hk => ?_, fun k => ?_, hr, hb, ?_, own_lt hr Ri rfl⟩
  · obtain ⟨ad, e2, h2⟩ := Kd.at_int hC (k : Int) (by omega) (by rw [hlen]; omega)
    cases e2
    rw [rd_nat, Int.toNat_natCast, show (⟨Ri, 0, none⟩ : Addr).add k = ⟨Ri, k, none⟩ from by simp [Addr.add]; omega] at h2
    exact h2
  · rcases hr.2 with ⟨h', _⟩ | ⟨g', cap', cur, h', _, hh2, _⟩
    · cases h'
    · cases h'
      simp [World.frozen?, hh2]
  · intro e
    rcases own_type_ne hr O.head (by decide) with h1 | h1
    · cases h1
    · exact h1 (by rw [e]; rfl)
theorem store {s Ri ci k : Nat} {x : Int} (O : OutC w base G cap n hs rows) (hi : hs[i]? = some (.slice (some ⟨Ri, 0, none⟩) s ci)) (hr : BR w base (.slice (some ⟨Ri, 0, none⟩) s ci) (Fld.row rows i)) (hlen : (Fld.row rows i).length = s) :
    OutC (w.setCell ⟨Ri, k, none⟩ (.int .u8 x)) base G cap n hs (rows.set i ((Fld.row rows i).set k x)) := by
  have hr2 : w.ownsRow base 5 1 (.slice (some ⟨Ri, 0, none⟩) s ci) s (encs (Value.int .u8) (Fld.row rows i)) := by have h := hr; unfold BR at h; rwa [hlen] at h
  have h1 := hr2.stored k (.int .u8 x)
  refine O.put hi (Kept.of_grown h1.2 (Kept.refl _ _) (fun k e => .inl e.symm)) ?_
  unfold BR
  rw [List.length_set, hlen]
  have h3 : (encs (Value.int .u8) (Fld.row rows i)).set k (.int .u8 x) = encs (Value.int .u8) ((Fld.row rows i).set k x) := by unfold encs; rw [List.map_set]
  rw [← h3]
  exact h1.1
end OutC
end Go.Proofs.Ytdbnladpogpiiaa.Oc
namespace Go.Proofs.Ytdbnladpogpiiaa.Fd
open Go.RowKit Go.Proofs.YtdbnladpogpiiaaW.PrintWords
open Go.Proofs.Ytdbnladpogpiiaa.Fld Go.Proofs.Ytdbnladpogpiiaa.Pl Go.Proofs.Ytdbnladpogpiiaa.Ot Go.Proofs.Ytdbnladpogpiiaa.Kp Go.Proofs.Ytdbnladpogpiiaa.Fw Go.Proofs.Ytdbnladpogpiiaa.Co Go.Proofs.Ytdbnladpogpiiaa.Cw Go.Proofs.Ytdbnladpogpiiaa.Cd
set_option linter.unusedSimpArgs false
set_option linter.unusedVariables false
theorem exp_two (j : Nat) : mulI (expI j) 2 = expI (j + 1) := by
  rw [mulI_comm (byt_exp j) ⟨by omega, by omega⟩]
  unfold mulI expI
  simp only [Int.toNat_natCast]
  have := two_mul (pw_lt j)
  rw [show (2 : Int).toNat = 2 from rfl, this]
  rfl
theorem log_l0 (m : Nat) (hm : m < 255) : ∀ d n, m - n = d → n ≤ m → ∃ t, t < 255 ∧ expI t = expI m ∧ Ev (fun k => PRq.ramekinref2_Log.l0 k (expI m) (expI n) (n : Int)) (t : Int)
  | 0, n, hd, hn => by
    obtain rfl : n = m := by omega
    refine ⟨n, hm, rfl, Ev.step (f := fun _ => some (n : Int)) (fun k => ?_) (Ev.now _)⟩
    rw [PRq.ramekinref2_Log.l0, if_pos (by omega), if_pos rfl]
  | d + 1, n, hd, hn => by
    by_cases h : expI n = expI m
    · refine ⟨n, by omega, h, Ev.step (f := fun _ => some (n : Int)) (fun k => ?_) (Ev.now _)⟩
      rw [PRq.ramekinref2_Log.l0, if_pos (by omega), if_pos h]
    · obtain ⟨t, h1, h2, h3⟩ := log_l0 m hm d (n + 1) (by omega) (by omega)
      refine ⟨t, h1, h2, Ev.step (f := fun k => (PRq.ramekinref2_Mul.f k (expI n) 2).bind fun t => PRq.ramekinref2_Log.l0 k (expI m) t ((n + 1 : Nat) : Int)) (fun k => ?_) ?_⟩
      · rw [PRq.ramekinref2_Log.l0, if_pos (by omega), if_neg h, w64 (by omega) (by omega)]; rfl
      · refine Ev.bind (refmul_ev (byt_exp n) ⟨by omega, by omega⟩) ?_
        rw [exp_two]
        exact h3
theorem exp_add (t m : Nat) : mulI (expI t) (expI m) = expI (t + m) := by
  unfold mulI expI
  simp only [Int.toNat_natCast]
  rw [pw_mul t (pw_lt m), pw_twn m, ← twn_add, ← pw_twn]
theorem inv_uniq {x y : Int} (hx : Byt x) (hy : Byt y) (h0 : x ≠ 0) (h : mulI x y = 1) : y = invI x := by
  have hi := byt_inv hx
  have h1 := mulI_inv hx h0
  have h2 : mulI (mulI y x) (invI x) = y := by rw [mulI_assoc hy hx hi, h1, mulI_one hy]
  rw [mulI_comm hy hx, h] at h2
  rw [← h2, mulI_comm ⟨by omega, by omega⟩ hi, mulI_one hi]
theorem exp255 : expI 255 = 1 := by unfold expI; rw [pw_255]; rfl
theorem refinv_ev {x : Int} (hx : Byt x) (h0 : x ≠ 0) : Ev (fun k => PRq.ramekinref2_Inv.f k x) (invI x) := by
  obtain ⟨a, rfl⟩ := Int.eq_ofNat_of_zero_le hx.1
  obtain ⟨m, hm, hma⟩ := exp_all (a := a) (by have := hx.2; omega) (by omega)
  have he : (a : Int) = expI m := by unfold expI; rw [hma]
  rw [he] at h0 hx ⊢
  obtain ⟨t, ht, het, hlog⟩ := log_l0 m hm m 0 (by omega) (by omega)
  have hlog2 : Ev (fun k => PRq.ramekinref2_Log.f k (expI m)) (t : Int) := hlog
  refine Ev.congr (f := fun k => (PRq.ramekinref2_Log.f k (expI m)).bind fun t189 => ((PRq.ramekinref2_Exp.f k (wrap64 (255 - t189))).bind fun t190 => (some t190))) (fun k => by rw [PRq.ramekinref2_Inv.f, if_neg h0]) (Ev.bind hlog2 ?_)
  by_cases ht0 : t = 0
  · subst ht0
    have e1 : wrap64 (255 - ((0 : Nat) : Int)) = 255 := by rw [w64 (by omega) (by omega)]; rfl
    have h1 : Ev (fun k => PRq.ramekinref2_Exp.f k (wrap64 (255 - ((0 : Nat) : Int)))) (expI 0) := by
      rw [e1]
      refine Ev.congr (f := fun k => PRq.ramekinref2_Exp.f k ((0 : Nat) : Int)) (fun k => ?_) (refexp_ev 0 (by omega))
      unfold PRq.ramekinref2_Exp.f
      rw [show Int.tmod 255 255 = 0 from by decide, show Int.tmod ((0 : Nat) : Int) 255 = 0 from by decide]
    refine Ev.bind h1 ?_
    have e2 : expI 0 = invI (expI m) := by
      refine inv_uniq (byt_exp m) (byt_exp 0) h0 ?_
      rw [← het, exp_add]
      rfl
    rw [← e2]
    exact Ev.now _
  · have e1 : wrap64 (255 - (t : Int)) = ((255 - t : Nat) : Int) := by rw [w64 (by omega) (by omega)]; omega
    have h1 : Ev (fun k => PRq.ramekinref2_Exp.f k (wrap64 (255 - (t : Int)))) (expI (255 - t)) := by rw [e1]; exact refexp_ev (255 - t) (by omega)
    refine Ev.bind h1 ?_
    have e2 : expI (255 - t) = invI (expI m) := by
      refine inv_uniq (byt_exp m) (byt_exp _) h0 ?_
      rw [← het, exp_add, show t + (255 - t) = 255 from by omega, exp255]
    rw [← e2]
    exact Ev.now _
/-- what all rows but those that are lost make at a byte -/
theorem rsums_l0 (l R : List (List Int)) (gone : List Bool) (d n k : Nat) (hk : k < n) (hR : Tw.GoodR n R) (hRl : R.length = d + 2) (hl : l.length = d + 2) (hg : gone.length = d + 2) (hd : d ≤ 14) (hn : n ≤ 1000000)
    (hrow : ∀ i, i < d → gone[i]? = some false → row l i = row R i) (hz : ∀ i, i < d → gone[i]? = some true → at_ (row R i) k = 0) : ∀ e i, d - i = e → i ≤ d →
    Ev (fun q => PRq.ramekinref5_sums.l0 q l gone (k : Int) (d : Int) (pS (R.take i) k) (qS 0 (R.take i) k) (i : Int)) (pS (R.take d) k, qS 0 (R.take d) k)
  | 0, i, he, hi => by
    obtain rfl : i = d := by omega
    refine Ev.step (f := fun _ => some (pS (R.take i) k, qS 0 (R.take i) k)) (fun q => ?_) (Ev.now _)
    rw [PRq.ramekinref5_sums.l0, if_neg (by omega)]
  | e + 1, i, he, hi => by
    have hiR : i < R.length := by omega
    have gi := Tw.good_row hR hiR
    have gt := good_take (m := i) hR
    have bt : ∀ r ∈ R.take i, Bytes r := fun r h => (gt r h).2
    have ht : R.take (i + 1) = R.take i ++ [row R i] := by rw [List.take_succ_eq_append_getElem hiR, row_lt hiR]
    have hp := pS_snoc (R.take i) (row R i) k bt gi.2
    have hq := qS_snoc 0 (R.take i) (row R i) k bt gi.2
    rw [← ht] at hp hq
    rw [show 0 + (R.take i).length = i from by rw [List.length_take]; omega] at hq
    have ih := rsums_l0 l R gone d n k hk hR hRl hl hg hd hn hrow hz e (i + 1) (by omega) (by omega)
    rw [hp, hq] at ih
    have hgi : ∃ b, gone[i]? = some b := ⟨gone[i]'(by omega), List.getElem?_eq_getElem _⟩
    obtain ⟨b, hb⟩ := hgi
    have hrd : rdOf false gone (i : Int) = b := by simp [rdOf, hb]
    have bp := byt_pS (R.take i) k bt
    have bq := byt_qS 0 (R.take i) k bt
    have hbx := byt_at gi.2 k
    cases b with
    | true =>
      have h0 := hz i (by omega) hb
      rw [h0, mulI_zero (byt_exp i), xorI_zero bp, xorI_zero bq] at ih
      refine Ev.step (f := fun q => PRq.ramekinref5_sums.l0 q l gone (k : Int) (d : Int) (pS (R.take i) k) (qS 0 (R.take i) k) ((i + 1 : Nat) : Int)) (fun q => ?_) ih
      rw [PRq.ramekinref5_sums.l0, if_pos (by omega), if_pos (by omega), if_pos (by omega), if_pos hrd, w64 (by omega) (by omega)]
      rfl
    | false =>
      have hr := hrow i (by omega) hb
      refine Ev.step (f := fun q => (PRq.ramekinref2_Exp.f q (i : Int)).bind fun t184 => ((PRq.ramekinref2_Mul.f q t184 (at_ (row R i) k)).bind fun t187 => PRq.ramekinref5_sums.l0 q l gone (k : Int) (d : Int) (xorI (pS (R.take i) k) (at_ (row R i) k)) (Go.bits .xor .u8 (qS 0 (R.take i) k) t187) ((i + 1 : Nat) : Int))) (fun q => ?_) ?_
      · rw [PRq.ramekinref5_sums.l0, if_pos (by omega), if_pos (by omega), if_pos (by omega), if_neg (by rw [hrd]; simp), if_pos (by omega), if_pos (by omega), rdL_nat, hr, if_pos (by rw [gi.1]; omega), rd_nat, xor_u8 bp hbx, w64 (by omega) (by omega)]
        rfl
      · refine Ev.bind (refexp_ev i (by omega)) (Ev.bind (refmul_ev (byt_exp i) hbx) ?_)
        rw [xor_u8 bq (byt_mul hbx)]
        exact ih
theorem rsums_ev (l R : List (List Int)) (gone : List Bool) (d n k : Nat) (hk : k < n) (hR : Tw.GoodR n R) (hRl : R.length = d + 2) (hl : l.length = d + 2) (hg : gone.length = d + 2) (hd : d ≤ 14) (hn : n ≤ 1000000)
    (hrow : ∀ i, i < d → gone[i]? = some false → row l i = row R i) (hz : ∀ i, i < d → gone[i]? = some true → at_ (row R i) k = 0) :
    Ev (fun q => PRq.ramekinref5_sums.f q l gone (k : Int)) (pS (R.take d) k, qS 0 (R.take d) k) := by
  have h := rsums_l0 l R gone d n k hk hR hRl hl hg hd hn hrow hz d 0 (by omega) (by omega)
  refine Ev.congr (fun q => ?_) h
  rw [PRq.ramekinref5_sums.f, show wrap64 ((l.length : Int) - 2) = (d : Int) from by rw [w64 (by omega) (by omega)]; omega]
  rfl
/-! ### rows filled up to a byte -/
def partR (R D : List (List Int)) (a : List Int) (k : Nat) : List (List Int) := R.mapIdx fun i r => if a.contains (i : Int) then (row D i).take k ++ r.drop k else r
theorem partR_len (R D : List (List Int)) (a : List Int) (k : Nat) : (partR R D a k).length = R.length := by simp [partR]
theorem partR_row (R D : List (List Int)) (a : List Int) (k i : Nat) (hi : i < R.length) : row (partR R D a k) i = if a.contains (i : Int) then (row D i).take k ++ (row R i).drop k else row R i := by
  rw [row_lt (by rw [partR_len]; exact hi), row_lt hi]
  unfold partR
  rw [List.getElem_mapIdx]
theorem part_zero (R D : List (List Int)) (a : List Int) : partR R D a 0 = R := by
  refine row_ext (by rw [partR_len]) (fun i hi => ?_)
  rw [partR_len] at hi
  rw [partR_row _ _ _ _ _ hi]
  split
  · simp
  · rfl
theorem part_end {R D : List (List Int)} {a : List Int} {n : Nat} (hR : Tw.GoodR n R) (hD : Tw.GoodR n D) (hl : D.length = R.length) (h : ∀ i, i < R.length → a.contains (i : Int) = false → row D i = row R i) : partR R D a n = D := by
  refine row_ext (by rw [partR_len, hl]) (fun i hi => ?_)
  rw [partR_len] at hi
  rw [partR_row _ _ _ _ _ hi]
  have g1 := (Tw.good_row hR hi).1
  have g2 := (Tw.good_row hD (i := i) (by omega)).1
  split
  · rw [List.take_of_length_le (by omega), List.drop_eq_nil_of_le (by omega), List.append_nil]
  · rename_i hc
    exact (h i hi (Bool.eq_false_iff.2 hc)).symm
theorem take_drop_set {A B : List Int} {n k : Nat} (hA : A.length = n) (hB : B.length = n) (hk : k < n) : (A.take k ++ B.drop k).set k (at_ A k) = A.take (k + 1) ++ B.drop (k + 1) := by
  apply List.ext_getElem?
  intro j
  have hl : (A.take k ++ B.drop k).length = n := by rw [List.length_append, List.length_take, List.length_drop]; omega
  have e0 : at_ A k = A[k] := by unfold at_; simp [show k < A.length by omega]
  by_cases hj : k = j
  · subst hj
    rw [List.getElem?_set_self (by omega), List.getElem?_append_left (by rw [List.length_take]; omega), List.getElem?_take, if_pos (by omega), List.getElem?_eq_getElem (by omega), e0]
  · rw [List.getElem?_set_ne hj]
    by_cases h2 : j < k
    · rw [List.getElem?_append_left (by rw [List.length_take]; omega), List.getElem?_append_left (by rw [List.length_take]; omega), List.getElem?_take, List.getElem?_take, if_pos h2, if_pos (by omega)]
    · rw [List.getElem?_append_right (by rw [List.length_take]; omega), List.getElem?_append_right (by rw [List.length_take]; omega), List.length_take, List.length_take, List.getElem?_drop, List.getElem?_drop]
      congr 1
      omega
theorem part_row_len {R D : List (List Int)} {a : List Int} {n k i : Nat} (hR : Tw.GoodR n R) (hD : Tw.GoodR n D) (hl : D.length = R.length) (hk : k ≤ n) (hi : i < R.length) : (row (partR R D a k) i).length = n := by
  rw [partR_row _ _ _ _ _ hi]
  have g1 := (Tw.good_row hR hi).1
  have g2 := (Tw.good_row hD (i := i) (by omega)).1
  split
  · rw [List.length_append, List.length_take, List.length_drop]; omega
  · exact g1
theorem part_at {R D : List (List Int)} {a : List Int} {n k i : Nat} (hR : Tw.GoodR n R) (hD : Tw.GoodR n D) (hl : D.length = R.length) (hk : k < n) (hi : i < R.length) : at_ (row (partR R D a k) i) k = at_ (row R i) k := by
  rw [partR_row _ _ _ _ _ hi]
  have g1 := (Tw.good_row hR hi).1
  have g2 := (Tw.good_row hD (i := i) (by omega)).1
  split
  · unfold at_
    simp only [List.getD_eq_getElem?_getD]
    rw [List.getElem?_append_right (by rw [List.length_take]; omega), List.length_take, List.getElem?_drop]
    congr 2
    omega
  · rfl
/-- a row of them written at the byte -/
def stepR (R D : List (List Int)) (a : List Int) (k x : Nat) : List Int := (row (partR R D a k) x).set k (at_ (row D x) k)
theorem step_eq {R D : List (List Int)} {a : List Int} {n k x : Nat} (hR : Tw.GoodR n R) (hD : Tw.GoodR n D) (hl : D.length = R.length) (hk : k < n) (hx : x < R.length) (hc : a.contains (x : Int) = true) : stepR R D a k x = row (partR R D a (k + 1)) x := by
  have g1 := (Tw.good_row hR hx).1
  have g2 := (Tw.good_row hD (i := x) (by omega)).1
  unfold stepR
  rw [partR_row _ _ _ _ _ hx, partR_row _ _ _ _ _ hx, if_pos hc, if_pos hc]
  exact take_drop_set g2 g1 hk
theorem part_one {R D : List (List Int)} {n k x : Nat} (hR : Tw.GoodR n R) (hD : Tw.GoodR n D) (hl : D.length = R.length) (hk : k < n) (hx : x < R.length) : (partR R D [(x : Int)] k).set x (stepR R D [(x : Int)] k x) = partR R D [(x : Int)] (k + 1) := by
  refine row_ext (by rw [List.length_set, partR_len, partR_len]) (fun i hi => ?_)
  rw [List.length_set, partR_len] at hi
  by_cases e : x = i
  · subst e
    rw [Tw.row_set_self (by rw [partR_len]; exact hi), step_eq hR hD hl hk hx (by simp)]
  · rw [Tw.row_set_ne e, partR_row _ _ _ _ _ hi, partR_row _ _ _ _ _ hi]
    have hc : ([(x : Int)] : List Int).contains (i : Int) = false := by simp; omega
    rw [hc]
    rfl
theorem part_two {R D : List (List Int)} {n k x y : Nat} (hR : Tw.GoodR n R) (hD : Tw.GoodR n D) (hl : D.length = R.length) (hk : k < n) (hx : x < R.length) (hy : y < R.length) (hxy : x ≠ y) :
    ((partR R D [(x : Int), (y : Int)] k).set x (stepR R D [(x : Int), (y : Int)] k x)).set y (stepR R D [(x : Int), (y : Int)] k y) = partR R D [(x : Int), (y : Int)] (k + 1) := by
  refine row_ext (by rw [List.length_set, List.length_set, partR_len, partR_len]) (fun i hi => ?_)
  rw [List.length_set, List.length_set, partR_len] at hi
  by_cases e : y = i
  · subst e
    rw [Tw.row_set_self (by rw [List.length_set, partR_len]; exact hi), step_eq hR hD hl hk hy (by simp)]
  · rw [Tw.row_set_ne e]
    by_cases e2 : x = i
    · subst e2
      rw [Tw.row_set_self (by rw [partR_len]; exact hi), step_eq hR hD hl hk hx (by simp)]
    · rw [Tw.row_set_ne e2, partR_row _ _ _ _ _ hi, partR_row _ _ _ _ _ hi]
      have hc : ([(x : Int), (y : Int)] : List Int).contains (i : Int) = false := by simp; omega
      rw [hc]
      rfl
/-! ### which of the data are lost -/
def aI (lost : List Int) (m : Nat) : List Int := ((List.range m).filter fun i : Nat => lost.contains (i : Int)).map fun i : Nat => (i : Int)
theorem aI_succ (lost : List Int) (m : Nat) : aI lost (m + 1) = aI lost m ++ (if lost.contains (m : Int) = true then [(m : Int)] else []) := by
  unfold aI
  rw [List.range_succ, List.filter_append, List.map_append]
  congr 1
  by_cases h : lost.contains (m : Int) = true
  · rw [if_pos h, List.filter_cons, if_pos h]; rfl
  · rw [if_neg h, List.filter_cons, if_neg h]; rfl
theorem aI_len (lost : List Int) (m : Nat) : (aI lost m).length ≤ m := by
  unfold aI
  rw [List.length_map]
  exact Nat.le_trans (List.length_filter_le _ _) (by simp)
theorem aI_one {lost : List Int} {x : Nat} (h : ∀ i : Nat, lost.contains (i : Int) = decide (i = x)) : ∀ m, aI lost m = if x < m then [(x : Int)] else []
  | 0 => rfl
  | m + 1 => by
    rw [aI_succ, aI_one h m, h m]
    by_cases e : m = x
    · subst e; simp
    · have e3 : (x < m + 1) = (x < m) := propext ⟨fun h => by omega, fun h => by omega⟩
      simp only [e3, e, decide_false, Bool.false_eq_true, if_false, List.append_nil]
theorem aI_two {lost : List Int} {x y : Nat} (hxy : x < y) (h : ∀ i : Nat, lost.contains (i : Int) = (decide (i = x) || decide (i = y))) : ∀ m, aI lost m = (if x < m then [(x : Int)] else []) ++ (if y < m then [(y : Int)] else [])
  | 0 => rfl
  | m + 1 => by
    rw [aI_succ, aI_two hxy h m, h m]
    by_cases e : m = x
    · subst e
      have f1 : ¬ y < m := by omega
      have f2 : ¬ y < m + 1 := by omega
      have f3 : m < m + 1 := by omega
      simp only [f1, f2, f3, Nat.lt_irrefl, decide_true, Bool.true_or, if_true, if_false, List.append_nil, List.nil_append]
    · by_cases e2 : m = y
      · subst e2
        have f1 : x < m + 1 := by omega
        have f3 : m < m + 1 := by omega
        simp only [f1, f3, hxy, Nat.lt_irrefl, e, decide_true, decide_false, Bool.or_true, if_true, if_false, List.append_nil]
      · have e3 : (x < m + 1) = (x < m) := propext ⟨fun h => by omega, fun h => by omega⟩
        have e4 : (y < m + 1) = (y < m) := propext ⟨fun h => by omega, fun h => by omega⟩
        simp only [e, e2, e3, e4, decide_false, Bool.or_self, Bool.false_eq_true, if_false, List.append_nil]
theorem aI_nil {lost : List Int} (h : ∀ i : Nat, lost.contains (i : Int) = false) : ∀ m, aI lost m = []
  | 0 => rfl
  | m + 1 => by rw [aI_succ, aI_nil h m, h m]; rfl
theorem aI_contains (lost : List Int) (m i : Nat) (hi : i < m) : (aI lost m).contains (i : Int) = lost.contains (i : Int) := by
  unfold aI
  by_cases h : lost.contains (i : Int) = true
  · rw [h, List.contains_iff_mem]
    exact List.mem_map.2 ⟨i, List.mem_filter.2 ⟨List.mem_range.2 hi, h⟩, rfl⟩
  · rw [Bool.not_eq_true] at h
    rw [h, Bool.eq_false_iff, ne_eq, List.contains_iff_mem]
    intro h2
    obtain ⟨j, hj, e⟩ := List.mem_map.1 h2
    have h3 := (List.mem_filter.1 hj).2
    rw [e, h] at h3
    cases h3
theorem aI_over (lost : List Int) (m i : Nat) (hi : m ≤ i) : (aI lost m).contains (i : Int) = false := by
  unfold aI
  rw [Bool.eq_false_iff, ne_eq, List.contains_iff_mem]
  intro h2
  obtain ⟨j, hj, e⟩ := List.mem_map.1 h2
  have h3 := List.mem_range.1 (List.mem_filter.1 hj).1
  omega
theorem data_cases {L R : List (List Int)} {lost : List Int} {d : Nat} (hmay : mayB L lost = true) (hl : L.length = d + 2) (p q : List Int) :
    (aI lost d = [] ∧ dataR R ((srt lost).map Int.toNat) d p q = R) ∨
    (∃ x, x < d ∧ aI lost d = [(x : Int)] ∧ lost.contains (d : Int) = false ∧ dataR R ((srt lost).map Int.toNat) d p q = R.set x (addR (row R x) p 1)) ∨
    (∃ x, x < d ∧ aI lost d = [(x : Int)] ∧ lost.contains (d : Int) = true ∧ dataR R ((srt lost).map Int.toNat) d p q = R.set x (addR (row R x) q (invI (expI x)))) ∨
    (∃ x y, x < y ∧ y < d ∧ aI lost d = [(x : Int), (y : Int)] ∧ dataR R ((srt lost).map Int.toNat) d p q = twoR R x y p q) := by
  obtain ⟨m1, m2, m3, m4, m5, m6⟩ := may_facts hmay
  have hmem : ∀ i : Nat, lost.contains (i : Int) = decide ((i : Int) ∈ srt lost) := fun i => by
    by_cases h : (i : Int) ∈ srt lost
    · rw [decide_eq_true h]; exact List.contains_iff_mem.2 ((srt_mem m3).1 h)
    · rw [decide_eq_false h, Bool.eq_false_iff]
      exact fun h2 => h ((srt_mem m3).2 (List.contains_iff_mem.1 h2))
  rcases gone_of m3 m4 m5 with h | ⟨a, h, ha⟩ | ⟨a, b, h, hab, hb⟩
  · left
    rw [h]
    exact ⟨aI_nil (fun i => by rw [hmem, h]; simp) d, rfl⟩
  · have hone : ∀ i : Nat, lost.contains (i : Int) = decide (i = a) := fun i => by
      rw [hmem, h]
      by_cases e : i = a
      · subst e; simp
      · rw [decide_eq_false e, decide_eq_false (by simp; omega)]
    have hA := aI_one hone d
    rw [h]
    by_cases had : a < d
    · right; left
      rw [if_pos had] at hA
      refine ⟨a, had, hA, by rw [hone, decide_eq_false (by omega)], ?_⟩
      simp only [List.map_cons, List.map_nil, Int.toNat_natCast, dataR]
      rw [if_neg (by omega)]
    · left
      rw [if_neg had] at hA
      refine ⟨hA, ?_⟩
      simp only [List.map_cons, List.map_nil, Int.toNat_natCast, dataR]
      rw [if_pos (by omega)]
  · have htwo : ∀ i : Nat, lost.contains (i : Int) = (decide (i = a) || decide (i = b)) := fun i => by
      rw [hmem, h]
      by_cases e : i = a
      · subst e; simp
      · by_cases e2 : i = b
        · subst e2; simp
        · rw [decide_eq_false e, decide_eq_false e2, decide_eq_false (by simp; omega)]; rfl
    have hA := aI_two hab htwo d
    rw [h]
    by_cases had : a < d
    · rw [if_pos had] at hA
      by_cases hbd : b < d
      · right; right; right
        rw [if_pos hbd] at hA
        refine ⟨a, b, hab, hbd, hA, ?_⟩
        simp only [List.map_cons, List.map_nil, Int.toNat_natCast, dataR]
        rw [if_neg (by omega), if_pos hbd]
      · rw [if_neg hbd, List.append_nil] at hA
        by_cases hbe : b = d
        · right; right; left
          refine ⟨a, had, hA, by rw [htwo, hbe]; simp, ?_⟩
          simp only [List.map_cons, List.map_nil, Int.toNat_natCast, dataR]
          rw [if_neg (by omega), if_neg (by omega), if_pos hbe]
        · right; left
          refine ⟨a, had, hA, by rw [htwo, decide_eq_false (by omega), decide_eq_false (by omega)]; rfl, ?_⟩
          simp only [List.map_cons, List.map_nil, Int.toNat_natCast, dataR]
          rw [if_neg (by omega), if_neg (by omega), if_neg hbe]
    · left
      rw [if_neg had, if_neg (by omega)] at hA
      refine ⟨hA, ?_⟩
      simp only [List.map_cons, List.map_nil, Int.toNat_natCast, dataR]
      rw [if_pos (by omega)]
theorem par_cases {L D : List (List Int)} {lost : List Int} {d n : Nat} (hmay : mayB L lost = true) (hl : L.length = d + 2) :
    parR D ((srt lost).map Int.toNat) d n = (if lost.contains ((d + 1 : Nat) : Int) = true then (if lost.contains (d : Int) = true then D.set d (sumP (D.take d) n) else D).set (d + 1) (sumQ (D.take d) n) else (if lost.contains (d : Int) = true then D.set d (sumP (D.take d) n) else D)) := by
  obtain ⟨m1, m2, m3, m4, m5, m6⟩ := may_facts hmay
  have hmem : ∀ i : Nat, lost.contains (i : Int) = decide ((i : Int) ∈ srt lost) := fun i => by
    by_cases h : (i : Int) ∈ srt lost
    · rw [decide_eq_true h]; exact List.contains_iff_mem.2 ((srt_mem m3).1 h)
    · rw [decide_eq_false h, Bool.eq_false_iff]
      exact fun h2 => h ((srt_mem m3).2 (List.contains_iff_mem.1 h2))
  rw [hmem, hmem]
  rcases gone_of m3 m4 m5 with h | ⟨a, h, ha⟩ | ⟨a, b, h, hab, hb⟩
  · rw [h]; simp [parR]
  · rw [h]
    simp only [List.map_cons, List.map_nil, Int.toNat_natCast, parR, List.foldl_cons, List.foldl_nil, List.mem_cons, List.not_mem_nil, or_false, decide_eq_true_eq, Int.ofNat_inj]
    by_cases h1 : a = d
    · subst h1
      rw [if_pos (by omega), if_pos rfl, if_neg (by omega), if_pos rfl]
    · by_cases h2 : a = d + 1
      · subst h2
        rw [if_pos (by omega), if_neg (by omega), if_pos rfl, if_neg (by omega)]
      · rw [if_neg (by omega), if_neg (by omega), if_neg (by omega)]
  · rw [h]
    simp only [List.map_cons, List.map_nil, Int.toNat_natCast, parR, List.foldl_cons, List.foldl_nil, List.mem_cons, List.not_mem_nil, or_false, decide_eq_true_eq, Int.ofNat_inj]
    by_cases h1 : a = d
    · subst h1
      obtain rfl : b = a + 1 := by omega
      have f1 : ¬ a + 1 = a := by omega
      simp [f1, take_set_ge (Nat.le_refl a)]
    · have had : a < d := by omega
      rw [if_neg (by omega : ¬ a ≥ d)]
      by_cases h3 : b = d
      · subst h3
        rw [if_pos (by omega), if_pos rfl, if_neg (by omega), if_pos (by omega)]
      · by_cases h4 : b = d + 1
        · subst h4
          rw [if_pos (by omega), if_neg (by omega), if_pos (by omega), if_neg (by omega)]
        · rw [if_neg (by omega), if_neg (by omega), if_neg (by omega)]
/-! ### what is put at a byte -/
theorem p_at {R : List (List Int)} {n d k : Nat} (hR : Tw.GoodR n R) (hl : R.length = d + 2) (hk : k < n) : at_ (addR (sumP (R.take d) n) (row R d) 1) k = xorI (pS (R.take d) k) (at_ (row R d) k) := by
  have g := Tw.good_row hR (i := d) (by omega)
  rw [addR_at _ _ _ _ (by rw [sumP_len]; exact hk) (by rw [g.1]; exact hk), sumP_at _ hk, mulI_one (byt_at g.2 k)]
theorem q_at {R : List (List Int)} {n d k : Nat} (hR : Tw.GoodR n R) (hl : R.length = d + 2) (hk : k < n) : at_ (addR (sumQ (R.take d) n) (row R (d + 1)) 1) k = xorI (qS 0 (R.take d) k) (at_ (row R (d + 1)) k) := by
  have g := Tw.good_row hR (i := d + 1) (by omega)
  rw [addR_at _ _ _ _ (by rw [sumQ_len]; exact hk) (by rw [g.1]; exact hk), sumQ_at _ hk, mulI_one (byt_at g.2 k)]
theorem zero_x {x : Int} (h : Byt x) : xorI 0 x = x := by rw [xorI_comm, xorI_zero h]
theorem one_at {R : List (List Int)} {n x k : Nat} {t : List Int} {b : Int} (hR : Tw.GoodR n R) (hx : x < R.length) (ht : t.length = n) (hk : k < n) (hz : row R x = List.replicate n 0) (hb : Byt (mulI (at_ t k) b)) : at_ (row (R.set x (addR (row R x) t b)) x) k = mulI (at_ t k) b := by
  have g := Tw.good_row hR hx
  rw [Tw.row_set_self hx, addR_at _ _ _ _ (by rw [g.1]; exact hk) (by omega), hz, at_zero, zero_x hb]
theorem two_at {R : List (List Int)} {n x y k : Nat} {p q : List Int} (hR : Tw.GoodR n R) (hx : x < R.length) (hy : y < R.length) (hxy : x ≠ y) (hp : p.length = n) (hq : q.length = n) (bp : Bytes p) (bq : Bytes q) (hk : k < n) (hzx : row R x = List.replicate n 0) (hzy : row R y = List.replicate n 0) :
    at_ (row (twoR R x y p q) x) k = mulI (xorI (at_ q k) (mulI (expI y) (at_ p k))) (invI (xorI (expI x) (expI y))) ∧ at_ (row (twoR R x y p q) y) k = xorI (at_ p k) (at_ (row (twoR R x y p q) x) k) := by
  have gx := Tw.good_row hR hx
  have gy := Tw.good_row hR hy
  have bpk := byt_at bp k
  have bqk := byt_at bq k
  have be : Byt (invI (xorI (expI x) (expI y))) := byt_inv (byt_xor (byt_exp x) (byt_exp y))
  have by_ := byt_exp y
  have hx1 : row (twoR R x y p q) x = addR (addR (row R x) q (invI (xorI (expI x) (expI y)))) p (mulI (invI (xorI (expI x) (expI y))) (expI y)) := by
    unfold twoR
    simp only
    rw [Tw.row_set_ne (Ne.symm hxy), Tw.row_set_self hx]
  have hy1 : row (twoR R x y p q) y = addR (addR (row R y) p 1) (row (twoR R x y p q) x) 1 := by
    rw [hx1]
    unfold twoR
    simp only
    rw [Tw.row_set_self (by rw [List.length_set]; exact hy)]
  have e1 : at_ (row (twoR R x y p q) x) k = mulI (xorI (at_ q k) (mulI (expI y) (at_ p k))) (invI (xorI (expI x) (expI y))) := by
    rw [hx1, addR_at _ _ _ _ (by rw [addR_len, gx.1]; exact hk) (by omega), addR_at _ _ _ _ (by rw [gx.1]; exact hk) (by omega), hzx, at_zero, zero_x (byt_mul be)]
    rw [mulI_comm (byt_xor bqk (byt_mul bpk)) be, mulI_xor bqk (byt_mul bpk), mulI_comm be bqk]
    congr 1
    rw [mulI_comm bpk (byt_mul by_), mulI_assoc be by_ bpk]
  refine ⟨e1, ?_⟩
  have hxl : (row (twoR R x y p q) x).length = n := by rw [hx1, addR_len, addR_len, gx.1]
  rw [hy1, addR_at _ _ _ _ (by rw [addR_len, gy.1]; exact hk) (by omega), addR_at _ _ _ _ (by rw [gy.1]; exact hk) (by omega), hzy, at_zero, mulI_one bpk, zero_x bpk, mulI_one (by rw [e1]; exact byt_mul be)]
theorem data_good {L R : List (List Int)} {lost p q : List Int} {d n : Nat} (hmay : mayB L lost = true) (hl : L.length = d + 2) (hR : Tw.GoodR n R) (hRl : R.length = d + 2) (hp : p.length = n ∧ Bytes p) (hq : q.length = n ∧ Bytes q) :
    Tw.GoodR n (dataR R ((srt lost).map Int.toNat) d p q) ∧ (dataR R ((srt lost).map Int.toNat) d p q).length = R.length ∧ ∀ i, i < R.length → (aI lost d).contains (i : Int) = false → row (dataR R ((srt lost).map Int.toNat) d p q) i = row R i := by
  rcases data_cases hmay hl (R := R) p q with ⟨_, h⟩ | ⟨x, hx, ha, _, h⟩ | ⟨x, hx, ha, _, h⟩ | ⟨x, y, hxy, hy, ha, h⟩
  · rw [h]
    exact ⟨hR, rfl, fun _ _ _ => rfl⟩
  · have gx := Tw.good_row hR (i := x) (by omega)
    rw [h, ha]
    refine ⟨Tw.good_set hR (Tw.good_add gx hp.2 ⟨by omega, by omega⟩), by rw [List.length_set], fun i hi hc => ?_⟩
    rw [Tw.row_set_ne (fun e => by subst e; simp at hc)]
  · have gx := Tw.good_row hR (i := x) (by omega)
    rw [h, ha]
    refine ⟨Tw.good_set hR (Tw.good_add gx hq.2 (byt_inv (byt_exp x))), by rw [List.length_set], fun i hi hc => ?_⟩
    rw [Tw.row_set_ne (fun e => by subst e; simp at hc)]
  · rw [h, ha]
    refine ⟨good_two hR (by omega) (by omega) hp hq, two_len _ _ _ _ _, fun i hi hc => ?_⟩
    unfold twoR
    simp only
    rw [Tw.row_set_ne (fun e => by subst e; simp at hc), Tw.row_set_ne (fun e => by subst e; simp at hc)]
end Go.Proofs.Ytdbnladpogpiiaa.Fd
