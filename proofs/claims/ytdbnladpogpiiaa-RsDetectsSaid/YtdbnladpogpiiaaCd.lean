/-
  Codewords: two that differ in two rows at most are one; a row that is lost comes back.
-/
import Derived.Test.YtdbnladpogpiiaaCw
namespace Go.Proofs.Ytdbnladpogpiiaa.Cd
open Go.RowKit Go.Proofs.YtdbnladpogpiiaaW.PrintWords
open Go.Proofs.Ytdbnladpogpiiaa.PRq Go.Proofs.Ytdbnladpogpiiaa.Fld Go.Proofs.Ytdbnladpogpiiaa.Pl Go.Proofs.Ytdbnladpogpiiaa.Ot Go.Proofs.Ytdbnladpogpiiaa.Tw Go.Proofs.Ytdbnladpogpiiaa.Kp Go.Proofs.Ytdbnladpogpiiaa.Fw Go.Proofs.Ytdbnladpogpiiaa.Co Go.Proofs.Ytdbnladpogpiiaa.Cw
set_option linter.unusedSimpArgs false
set_option linter.unusedVariables false
/-- rows of which the last two are the parities of the others -/
structure Code (A : List (List Int)) (n d : Nat) : Prop where
  good : GoodR n A
  len : A.length = d + 2
  p : sumP (A.take d) n = row A d
  q : sumQ (A.take d) n = row A (d + 1)
theorem xorI_eq {x y : Int} (hx : Byt x) (hy : Byt y) (h : xorI x y = 0) : x = y := by
  have h1 := congrArg (xorI x) h
  rw [xorI_self_left _ hy, xorI_zero hx] at h1
  exact h1.symm
theorem mulI_eq_zero {x y : Int} (hx : Byt x) (hy : Byt y) (h0 : x ≠ 0) (h : mulI x y = 0) : y = 0 := by
  have h1 := congrArg (mulI (invI x)) h
  rw [← mulI_assoc (byt_inv hx) hx hy, mulI_comm (byt_inv hx) hx, mulI_inv hx h0, mulI_zero (byt_inv hx), mulI_comm ⟨by omega, by omega⟩ hy, mulI_one hy] at h1
  exact h1
theorem row_at_ext {A B : List (List Int)} {n i : Nat} (hA : GoodR n A) (hB : GoodR n B) (hi : i < A.length) (hj : i < B.length) (h : ∀ k, k < n → at_ (row A i) k = at_ (row B i) k) : row A i = row B i := by
  have h1 := (Tw.good_row hA hi).1
  have h2 := (Tw.good_row hB hj).1
  exact ext_at (by rw [h1, h2]) (fun k hk => h k (by rw [← h1]; exact hk))
/-- rows that are alike but for one -/
theorem set_of {A B : List (List Int)} {a : Nat} (hl : A.length = B.length) (h : ∀ j, j < A.length → j ≠ a → row A j = row B j) : B = A.set a (row B a) := by
  refine row_ext (by rw [List.length_set, hl]) (fun j hj => ?_)
  by_cases e : j = a
  · subst e
    rw [Tw.row_set_self (by omega)]
  · rw [Tw.row_set_ne (Ne.symm e), h j (by omega) e]
theorem set_of2 {A B : List (List Int)} {a b : Nat} (hab : a ≠ b) (hl : A.length = B.length) (h : ∀ j, j < A.length → j ≠ a → j ≠ b → row A j = row B j) : B = (A.set a (row B a)).set b (row B b) := by
  refine row_ext (by rw [List.length_set, List.length_set, hl]) (fun j hj => ?_)
  by_cases e : j = b
  · subst e
    rw [Tw.row_set_self (by rw [List.length_set]; omega)]
  · rw [Tw.row_set_ne (Ne.symm e)]
    by_cases e2 : j = a
    · subst e2
      rw [Tw.row_set_self (by omega)]
    · rw [Tw.row_set_ne (Ne.symm e2), h j (by omega) e2 e]
theorem uniq {A B : List (List Int)} {n d a b : Nat} (hA : Code A n d) (hB : Code B n d) (h16 : d + 2 ≤ 16) (hab : a < b) (hb : b < d + 2) (h : ∀ j, j < d + 2 → j ≠ a → j ≠ b → row A j = row B j) : A = B := by
  have lA := hA.len
  have lB := hB.len
  have gT := good_take (m := d) hA.good
  have gU := good_take (m := d) hB.good
  have bT : ∀ x ∈ A.take d, Bytes x := fun x hx => (gT x hx).2
  have lT : (A.take d).length = d := by rw [List.length_take]; omega
  have lU : (B.take d).length = d := by rw [List.length_take]; omega
  have byA : ∀ i k, i < d + 2 → Byt (at_ (row A i) k) := fun i k hi => byt_at (Tw.good_row hA.good (by omega)).2 k
  have byB : ∀ i k, i < d + 2 → Byt (at_ (row B i) k) := fun i k hi => byt_at (Tw.good_row hB.good (by omega)).2 k
  have rT : ∀ j, j < d → row (A.take d) j = row A j := fun j hj => row_take hj
  have rU : ∀ j, j < d → row (B.take d) j = row B j := fun j hj => row_take hj
  have pA : ∀ k, k < n → pS (A.take d) k = at_ (row A d) k := fun k hk => by rw [← hA.p, sumP_at _ hk]
  have qA : ∀ k, k < n → qS 0 (A.take d) k = at_ (row A (d + 1)) k := fun k hk => by rw [← hA.q, sumQ_at _ hk]
  have pB : ∀ k, k < n → pS (B.take d) k = at_ (row B d) k := fun k hk => by rw [← hB.p, sumP_at _ hk]
  have qB : ∀ k, k < n → qS 0 (B.take d) k = at_ (row B (d + 1)) k := fun k hk => by rw [← hB.q, sumQ_at _ hk]
  have ex : ∀ i, expI i ≠ 0 := fun i h => pw_ne_zero i (by unfold expI at h; omega)
  -- the data are the same
  have hdata : ∀ j, j < d → row A j = row B j := by
    by_cases had : d ≤ a
    · exact fun j hj => h j (by omega) (by omega) (by omega)
    by_cases hbd : b < d
    · -- both are data
      have hS : B.take d = ((A.take d).set a (row B a)).set b (row B b) := by
        have := set_of2 (A := A.take d) (B := B.take d) (a := a) (b := b) (by omega) (by rw [lT, lU]) (fun j hj h1 h2 => by rw [lT] at hj; rw [rT j hj, rU j hj]; exact h j (by omega) h1 h2)
        rwa [rU a (by omega), rU b hbd] at this
      have bS : ∀ x ∈ (A.take d).set a (row B a), Bytes x := by
        intro x hx
        rcases List.mem_or_eq_of_mem_set hx with hx | rfl
        · exact bT x hx
        · exact (Tw.good_row hB.good (by omega)).2
      have key : ∀ k, k < n → at_ (row A a) k = at_ (row B a) k ∧ at_ (row A b) k = at_ (row B b) k := by
        intro k hk
        have e1 := pB k hk
        have e2 := qB k hk
        have r2 : row ((A.take d).set a (row B a)) b = row A b := by rw [Tw.row_set_ne (by omega), rT b hbd]
        rw [hS, pS_set _ b _ k (by rw [List.length_set, lT]; exact hbd), r2, pS_set _ a _ k (by rw [lT]; omega), rT a (by omega), pA k hk, ← h d (by omega) (by omega) (by omega)] at e1
        rw [hS, qS_set _ 0 b _ k (by rw [List.length_set, lT]; exact hbd) bS (Tw.good_row hB.good (by omega)).2, r2, qS_set _ 0 a _ k (by rw [lT]; omega) bT (Tw.good_row hB.good (by omega)).2, rT a (by omega), qA k hk, ← h (d + 1) (by omega) (by omega) (by omega), Nat.zero_add, Nat.zero_add] at e2
        have bd := byA d k (by omega)
        have be := byA (d + 1) k (by omega)
        have u1 := byt_xor (byA a k (by omega)) (byB a k (by omega))
        have u2 := byt_xor (byA b k (by omega)) (byB b k (by omega))
        generalize hu : xorI (at_ (row A a) k) (at_ (row B a) k) = u at e1 e2 u1
        generalize hv : xorI (at_ (row A b) k) (at_ (row B b) k) = v at e1 e2 u2
        have f1 : xorI u v = 0 := by
          have := congrArg (xorI (at_ (row A d) k)) e1
          rwa [xorI_self, xorI_assoc, xorI_self_left _ (byt_xor u1 u2)] at this
        have f2 : xorI (mulI (expI a) u) (mulI (expI b) v) = 0 := by
          have := congrArg (xorI (at_ (row A (d + 1)) k)) e2
          rwa [xorI_self, xorI_assoc, xorI_self_left _ (byt_xor (byt_mul u1) (byt_mul u2))] at this
        have f3 := xorI_eq u1 u2 f1
        rw [← f3] at f2
        have f4 : mulI (xorI (expI a) (expI b)) u = 0 := by
          rw [mulI_comm (byt_xor (byt_exp a) (byt_exp b)) u1, mulI_xor (byt_exp a) (byt_exp b), mulI_comm u1 (byt_exp a), mulI_comm u1 (byt_exp b)]
          exact f2
        have f5 := mulI_eq_zero (byt_xor (byt_exp a) (byt_exp b)) u1 (Tw.xor_ne (by omega) (by omega) (by omega)) f4
        rw [← f3, f5] at hv
        rw [f5] at hu
        exact ⟨xorI_eq (byA a k (by omega)) (byB a k (by omega)) hu, xorI_eq (byA b k (by omega)) (byB b k (by omega)) hv⟩
      intro j hj
      by_cases ja : j = a
      · subst ja
        exact row_at_ext hA.good hB.good (by omega) (by omega) (fun k hk => (key k hk).1)
      · by_cases jb : j = b
        · subst jb
          exact row_at_ext hA.good hB.good (by omega) (by omega) (fun k hk => (key k hk).2)
        · exact h j (by omega) ja jb
    · -- one is data
      have hS : B.take d = (A.take d).set a (row B a) := by
        have := set_of (A := A.take d) (B := B.take d) (a := a) (by rw [lT, lU]) (fun j hj h1 => by rw [lT] at hj; rw [rT j hj, rU j hj]; exact h j (by omega) h1 (by omega))
        rwa [rU a (by omega)] at this
      have key : ∀ k, k < n → at_ (row A a) k = at_ (row B a) k := by
        intro k hk
        have u1 := byt_xor (byA a k (by omega)) (byB a k (by omega))
        by_cases hbe : b = d
        · have e2 := qB k hk
          rw [hS, qS_set _ 0 a _ k (by rw [lT]; omega) bT (Tw.good_row hB.good (by omega)).2, rT a (by omega), qA k hk, ← h (d + 1) (by omega) (by omega) (by omega), Nat.zero_add] at e2
          have f2 : mulI (expI a) (xorI (at_ (row A a) k) (at_ (row B a) k)) = 0 := by
            have := congrArg (xorI (at_ (row A (d + 1)) k)) e2
            rwa [xorI_self, xorI_self_left _ (byt_mul u1)] at this
          exact xorI_eq (byA a k (by omega)) (byB a k (by omega)) (mulI_eq_zero (byt_exp a) u1 (ex a) f2)
        · have e1 := pB k hk
          rw [hS, pS_set _ a _ k (by rw [lT]; omega), rT a (by omega), pA k hk, ← h d (by omega) (by omega) (by omega)] at e1
          have f1 : xorI (at_ (row A a) k) (at_ (row B a) k) = 0 := by
            have := congrArg (xorI (at_ (row A d) k)) e1
            rwa [xorI_self, xorI_self_left _ u1] at this
          exact xorI_eq (byA a k (by omega)) (byB a k (by omega)) f1
      intro j hj
      by_cases ja : j = a
      · subst ja
        exact row_at_ext hA.good hB.good (by omega) (by omega) key
      · exact h j (by omega) ja (by omega)
  have htk : A.take d = B.take d := row_ext (by rw [lT, lU]) (fun j hj => by rw [lT] at hj; rw [rT j hj, rU j hj]; exact hdata j hj)
  refine row_ext (by rw [lA, lB]) (fun j hj => ?_)
  by_cases h1 : j < d
  · exact hdata j h1
  · by_cases h2 : j = d
    · subst h2; rw [← hA.p, ← hB.p, htk]
    · obtain rfl : j = d + 1 := by omega
      rw [← hA.q, ← hB.q, htk]
end Go.Proofs.Ytdbnladpogpiiaa.Cd
